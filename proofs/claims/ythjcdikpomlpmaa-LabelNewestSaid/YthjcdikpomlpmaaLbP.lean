/-
  Chapter 30 (label): the payload.
-/
import Derived.Test.YthjcdikpomlpmaaLbO
import Derived.Test.YthjcdikpomlpmaaAlt
namespace Go.Proofs.Ythjcdikpomlpmaa
open Go.RowKit
set_option linter.unusedVariables false

theorem OwnB.made (w : World) (n base : Nat) (hb : base ≤ w.heap.size) (hm : n ≤ maxLen) : OwnG encB 5 (w.alloc (.cells (madeCells #[.int .u8 0] n) 5)) base (.slice (some ⟨w.heap.size, 0, none⟩) n n) (List.replicate n 0#8) := by
  have hl : (List.replicate n 0#8).length = n := List.length_replicate
  have hc : madeCells #[.int .u8 0] n = ((List.replicate n 0#8).map encB).toArray := by
    obtain ⟨c, h, hs, hc⟩ := World.rowIs_made w (.int .u8 0) n 5
    have h2 : (w.alloc (.cells (madeCells #[.int .u8 0] n) 5)).heap[w.heap.size]? = some (.cells (madeCells #[.int .u8 0] n) 5 (0, 0)) := heap_alloc_new _ _
    rw [h2] at h
    injection h with h
    injection h with h _ _
    subst h
    refine Array.ext_getElem? fun i => ?_
    by_cases hi : i < n
    · rw [hc i hi]; simp [hi]; rfl
    · rw [Array.getElem?_eq_none (by omega)]; simp; omega
  have := OwnG.lit (enc := encB) w (List.replicate n 0#8) 5 base hb (by rw [hl]; exact hm) _ hc
  rwa [hl] at this
def PayEnd (w : World) (l : List (BitVec 8)) (e : Ending) (w' : World) : Prop := ∃ v', e = .returned v' ∧ SliceAt encB w' v' l ∧ Ext w w'
theorem cfg_next (c : Cfg) {i : Nat} (h : i < 11) : ((cfgL c).take (i + 1)).flatMap (fun n => uv n.toNat) = ((cfgL c).take i).flatMap (fun n => uv n.toNat) ++ Lb.numsL [((cfgL c).getD i 0).toNat] := by
  have hl : i < (cfgL c).length := h
  rw [List.take_succ_eq_append_getElem hl, List.flatMap_append, getD_in hl]
  simp [Lb.numsL]
theorem cfg_short {c : Cfg} (h : ∀ n, n ∈ cfgL c → 0 ≤ n ∧ n ≤ 65535) (i : Nat) : (((cfgL c).take i).flatMap (fun n => uv n.toNat)).length ≤ 33 := by
  have key : ∀ l : List Int, (∀ n, n ∈ l → 0 ≤ n ∧ n ≤ 65535) → (l.flatMap fun n => uv n.toNat).length ≤ 3 * l.length := by
    intro l
    induction l with
    | nil => intro _; simp
    | cons a t ih =>
      intro h
      rw [List.flatMap_cons, List.length_append, List.length_cons]
      have := (uv_length 3 a.toNat (by decide) (by have := (h a (by simp)).2; omega)).2
      have := ih fun n hn => h n (by simp [hn])
      omega
  have h1 := key ((cfgL c).take i) fun n hn => h n (List.mem_of_mem_take hn)
  have h2 : ((cfgL c).take i).length ≤ 11 := by rw [List.length_take]; exact Nat.le_trans (Nat.min_le_right _ _) (Nat.le_refl _)
  omega

set_option maxRecDepth 100000 in
set_option maxHeartbeats 4000000 in
theorem payload_any (l : Lab) (dv : Value) (x : List Bool) (w : World) (F : Lb.Fine l x) (h : SliceAt Value.bool w dv x) :
    Calls Try.prog 31 #[labV l dv] w (PayEnd w (Lb.payL l x)) := by
  obtain ⟨ad, cd, rfl⟩ := h.shape
  have HD := Lib.hid h
  have HF := Lib.hid F
  obtain ⟨dk, hdk⟩ := Int.eq_ofNat_of_zero_le F.disk.1
  obtain ⟨bk, hbk⟩ := Int.eq_ofNat_of_zero_le F.blob.1
  have HBK : Hid ((bk : Int) = l.blob) := hbk.symm
  have hdk60 : dk < 60 := by have := F.disk.2; omega
  have hbk60 : bk ≤ 1048576 := by have := F.blob.2; omega
  have hP : Lb.payL l x = Lb.numsL [l.array.toNat, dk, l.gen.toNat, l.prev.toNat] ++ Lb.cfgBytes l.c ++ uv (Lb.bitsL x).length ++ Lb.bitsL x ++ Lb.numsL [bk, l.sum.toNat, l.root.toNat] := by
    unfold Lb.payL; rw [hdk, hbk]; rfl
  have HP := Lib.hid hP
  obtain ⟨n, hn⟩ : ∃ n, x.length = n := ⟨_, rfl⟩
  have HN := Lib.hid hn
  have hn60 : n ≤ 60 := by have := F.len; omega
  rw [hn] at HD ⊢
  have HB1 : Hid (BoxAt (w.alloc (.cells (labA l (.slice ad n cd)) 29)) w.heap.size (labA l (.slice ad n cd)) 29) := BoxAt.new _ _ _
  have HX1 : Hid (Ext w (w.alloc (.cells (labA l (.slice ad n cd)) 29))) := Ext.alloc _ _
  have k0 := HB1.out.cell 0 (v := encU l.array) rfl
  have k1 := HB1.out.cell 1 (v := .int .i64 dk) (by rw [show (dk : Int) = l.disk from hdk.symm]; rfl)
  have k2 := HB1.out.cell 2 (v := encU l.gen) rfl
  have k3 := HB1.out.cell 3 (v := encU l.prev) rfl
  have hl1 := HB1.out.lt
  clear h hP hn F hdk hbk
  go_enter Try.func31, Try.ntmps31
  go_upto_region 1 with fail
  generalize w.alloc (.cells (labA l (.slice ad n cd)) 29) = w1 at *
  go_wp2_with fail
  go_at_call 32
  have hnm : ∀ n, n ∈ [l.array.toNat, dk, l.gen.toNat, l.prev.toNat] → n < 18446744073709551616 := by
    intro n hn
    simp only [List.mem_cons, List.not_mem_nil, or_false] at hn
    have := l.array.isLt
    have := l.gen.isLt
    have := l.prev.isLt
    omega
  refine (numbers_any _ _ [] [l.array.toNat, dk, l.gen.toNat, l.prev.toNat] _ (by simp) (by simp) hnm SliceAt.nil (SliceAt.lit (enc := encM) w1 [l.array.toNat, dk, l.gen.toNat, l.prev.toNat] _ (0, 0) _ rfl)).mono ?_
  rintro e w2 ⟨v2, rfl, hs2, hx2⟩
  rw [List.nil_append] at hs2
  have hA : (Lb.numsL [l.array.toNat, dk, l.gen.toNat, l.prev.toNat]).length ≤ 40 := numsL_len _ hnm
  generalize Lb.numsL [l.array.toNat, dk, l.gen.toNat, l.prev.toNat] = A at *
  have HS2 := Lib.hid hs2
  have HX2 : Hid (Ext w w2) := HX1.out.trans ((Ext.alloc _ _).trans hx2)
  have HB2 := Lib.hid (HB1.out.ext ((Ext.alloc _ _).trans hx2))
  have hg2 := HB2.out.lt
  clear hs2 hx2 k0 k1 k2 k3 hl1 HB1 HX1 hnm
  go_wp2_with fail
  go_at_call 52
  refine (fields_any _ _ hg2).mono ?_
  rintro e w3 ⟨v3, rfl, hs3, hx3⟩
  obtain ⟨af, cf, rfl⟩ := hs3.shape
  have HS3 := Lib.hid hs3
  have HB3 := Lib.hid (HB2.out.ext hx3)
  have HX3 : Hid (Ext w w3) := HX2.out.trans hx3
  have HST : Hid (SliceAt encB w3 v2 (A ++ ((cfgL l.c).take 0).flatMap fun n => uv n.toNat)) := by
    show SliceAt _ _ _ _
    rw [List.take_zero, List.flatMap_nil, List.append_nil]; exact HS2.out.ext hx3
  rw [show (List.range 11).length = 11 from rfl] at HS3 ⊢
  clear hs3 hx3 HS2 HB2 HX2 hg2
  go_wp2_with fail
  go_loopw [3, 24] (fun vo it wr => ∃ i : Nat, i ≤ 11 ∧ it = .int .i64 i ∧ Hid (SliceAt encB wr vo (A ++ ((cfgL l.c).take i).flatMap fun n => uv n.toNat)) ∧ Hid (Ext w3 wr)) (fun _ it _ => 11 - (intOf it).toNat)
  case atStart => exact ⟨0, by decide, rfl, HST, Lib.hid (Ext.refl _)⟩
  case round =>
    obtain ⟨i, hi, rfl, HS, HX⟩ := hrel
    by_cases hlt : i < 11
    · have hin : (i : Int) < 11 := by omega
      obtain ⟨bp, op, rfl, hbp, hcp⟩ := (HS3.out.ext HX.out).get i (by simpa using hlt)
      rw [List.getElem_range] at hcp
      have hcl := (HB3.out.ext HX.out).cell (4 + i) (lab_field l _ i hlt)
      have hgl := (HB3.out.ext HX.out).lt
      have hcm : 0 ≤ (cfgL l.c).getD i 0 ∧ (cfgL l.c).getD i 0 ≤ 65535 := HF.out.cfg _ (by rw [getD_in (show i < (cfgL l.c).length from hlt)]; exact List.getElem_mem _)
      have HNX := Lib.hid (cfg_next l.c hlt)
      have hsl := cfg_short HF.out.cfg i
      obtain ⟨q, hq⟩ := Int.eq_ofNat_of_zero_le hcm.1
      have hq6 : q ≤ 65535 := by omega
      rw [hq, Int.toNat_natCast] at HNX
      rw [hq] at hcl
      have hyl : (A ++ ((cfgL l.c).take i).flatMap fun n => uv n.toNat).length ≤ 10000 := by rw [List.length_append]; omega
      obtain ⟨y, hy⟩ : ∃ y, (A ++ ((cfgL l.c).take i).flatMap fun n => uv n.toNat) = y := ⟨_, rfl⟩
      have HY := Lib.hid hy
      rw [hy] at HS hyl
      clear hq hcm hsl hy
      go_wp2_with fail
      go_at_call 32
      refine (numbers_any _ _ y [q] _ hyl (by simp) (fun n hn => by rw [List.mem_singleton] at hn; omega) (HS.out.ext (Ext.alloc _ _)) (SliceAt.lit (enc := encM) wr [q] _ (0, 0) _ rfl)).mono ?_
      rintro e w5 ⟨v5, rfl, hs5, hx5⟩
      have HS5 : Hid (SliceAt encB w5 v5 (A ++ ((cfgL l.c).take (i + 1)).flatMap fun n => uv n.toNat)) := by
        show SliceAt _ _ _ _
        rw [HNX.out, ← List.append_assoc, HY.out]; exact hs5
      have HX5 : Hid (Ext w3 w5) := HX.out.trans ((Ext.alloc _ _).trans hx5)
      clear hs5 hx5 hcl hgl hcp hbp
      go_wp2_with fail
      go_roundw
      case rel => exact ⟨i + 1, by omega, by go_num, HS5, HX5⟩
      case measure => simp [intOf]; omega
    · have hin : i = 11 := by omega
      subst hin
      rw [show (cfgL l.c).take 11 = cfgL l.c from rfl, show ((cfgL l.c).flatMap fun n => uv n.toNat) = Lb.cfgBytes l.c from rfl] at HS
      have hyl : (A ++ Lb.cfgBytes l.c).length ≤ 10000 := by rw [List.length_append]; have := Lb.cfgB_len l.c HF.out.cfg; omega
      obtain ⟨y, hy⟩ : ∃ y, A ++ Lb.cfgBytes l.c = y := ⟨_, rfl⟩
      have HY := Lib.hid hy
      rw [hy] at HS hyl HP
      have HB := Lib.hid (HB3.out.ext HX.out)
      have HXw := Lib.hid (HX3.out.trans HX.out)
      clear hy HB3 HX3 HX HS3
      have m15 := HB.out.cell 15 (v := .slice ad n cd) rfl
      have hgl := HB.out.lt
      obtain ⟨nb, hnb⟩ : ∃ nb, (n + 7) / 8 = nb := ⟨_, rfl⟩
      have hnbI : ((n : Int) + 7) / 8 = (nb : Int) := by omega
      have hnb8 : nb ≤ 8 := by omega
      have HNB := Lib.hid hnb
      clear hnb
      have hmk : ∀ w : World, (Instr.makeSlice 35 (.int .i64 (nb : Int)) (.int .i64 (nb : Int))).run Try.prog w = .ok (.slice (some ⟨w.heap.size, 0, none⟩) nb nb) (w.alloc (.cells (madeCells #[.int .u8 0] nb) 5)) :=
        run_make_row' 35 5 (.int .u8 0) 1 Try.underlying35 infoB rfl .i64 .i64 nb (by omega) (by first | omega | (unfold maxLen; omega))
      go_upto_region 8 with fail
      have HNBI := Lib.hid hnbI
      clear hnbI
      have HO0 : Hid (OwnG encB 5 ((wr.alloc (.cells (madeCells #[.int .u8 0] nb) 5)).alloc (.cells #[.slice (some ⟨wr.heap.size, 0, none⟩) nb nb] 35)) wr.heap.size (.slice (some ⟨wr.heap.size, 0, none⟩) nb nb) (Lb.bitsTo x 0)) := by
        have := (OwnB.made wr nb wr.heap.size (Nat.le_refl _) (by unfold maxLen; omega)).ext (Ext.alloc _ (.cells #[.slice (some ⟨wr.heap.size, 0, none⟩) nb nb] 35))
        show OwnG _ _ _ _ _ _
        rw [Lb.bitsTo, HN.out, HNB.out]; exact this
      have HBB : Hid (BoxAt ((wr.alloc (.cells (madeCells #[.int .u8 0] nb) 5)).alloc (.cells #[.slice (some ⟨wr.heap.size, 0, none⟩) nb nb] 35)) (wr.heap.size + 1) #[.slice (some ⟨wr.heap.size, 0, none⟩) nb nb] 35) := by
        have := BoxAt.new (wr.alloc (.cells (madeCells #[.int .u8 0] nb) 5)) #[.slice (some ⟨wr.heap.size, 0, none⟩) nb nb] 35
        rwa [World.size_alloc] at this
      have HX4 : Hid (Ext wr ((wr.alloc (.cells (madeCells #[.int .u8 0] nb) 5)).alloc (.cells #[.slice (some ⟨wr.heap.size, 0, none⟩) nb nb] 35))) := (Ext.alloc _ _).trans (Ext.alloc _ _)
      generalize (wr.alloc (.cells (madeCells #[.int .u8 0] nb) 5)).alloc (.cells #[.slice (some ⟨wr.heap.size, 0, none⟩) nb nb] 35) = w4 at *
      clear hmk m15 hgl
      generalize wr = wo at *
      have m15 := (HB.out.ext HX4.out).cell 15 (v := .slice ad n cd) rfl
      have hgl := (HB.out.ext HX4.out).lt
      have HBL : Hid (∀ i, (Lb.bitsTo x i).length = nb) := fun i => by rw [Lb.bitsTo_len, HN.out, HNB.out]
      go_wp2_with fail
      clear m15 hgl
      go_loopw [46] (fun it wr => ∃ i : Nat, i ≤ n ∧ it = .int .i64 i ∧ Hid (OwnG encB 5 wr wo.heap.size (.slice (some ⟨wo.heap.size, 0, none⟩) nb nb) (Lb.bitsTo x i)) ∧ Hid (BoxAt wr (wo.heap.size + 1) #[.slice (some ⟨wo.heap.size, 0, none⟩) nb nb] 35) ∧ Hid (Ext wo wr)) (fun it _ => n - (intOf it).toNat)
      case atStart => exact ⟨0, Nat.zero_le _, rfl, HO0, HBB, HX4⟩
      case round =>
        obtain ⟨i, hi, rfl, HO, HBX, HX⟩ := hrel
        by_cases hlt : i < n
        · have hin : (i : Int) < (n : Int) := by omega
          have hxl : i < x.length := by rw [HN.out]; exact hlt
          obtain ⟨bd, od, rfl, hbd, hcd⟩ := (HD.out.ext (HXw.out.trans HX.out)).get i hxl
          rw [← getD_in (d := false) hxl] at hcd
          have HNX : Hid (Lb.bitsTo x (i + 1) = if x.getD i false then (Lb.bitsTo x i).set (i / 8) ((Lb.bitsTo x i).getD (i / 8) 0#8 ||| 1#8 <<< (i % 8)) else Lb.bitsTo x i) := rfl
          cases hxi : x.getD i false with
          | false =>
            rw [hxi] at hcd HNX
            have HN2 : Hid (Lb.bitsTo x (i + 1) = Lb.bitsTo x i) := HNX.out
            go_wp2_with fail
            go_roundw
            case rel => exact ⟨i + 1, by omega, by go_num, by rw [HN2.out]; exact HO, HBX, HX⟩
            case measure => simp [intOf]; omega
          | true =>
            rw [hxi] at hcd HNX
            have HN2 : Hid (Lb.bitsTo x (i + 1) = (Lb.bitsTo x i).set (i / 8) ((Lb.bitsTo x i).getD (i / 8) 0#8 ||| 1#8 <<< (i % 8))) := HNX.out
            have hi8 : i / 8 < nb := by have := HNB.out; omega
            have hbl := HBL.out i
            have hcy := HO.out.at hbl.symm (show i / 8 < (Lb.bitsTo x i).length by rw [hbl]; exact hi8)
            rw [← getD_in (d := 0#8) (show i / 8 < (Lb.bitsTo x i).length by rw [hbl]; exact hi8)] at hcy
            have hfy := HO.out.frees hbl.symm (i / 8)
            have hlo : wo.heap.size < wr.heap.size := (OwnG.lt HO.out wo.heap.size (by simp [Value.ownBlock])).2
            have HC := Lib.hid (bit_any i (wo.heap.size + 1) wo.heap.size nb _ wr hi8 (by omega) HBX.out.lt (HBX.out.cell 0 rfl) hlo hcy hfy)
            have HO2 : Hid (OwnG encB 5 ((wr.setCell ⟨wo.heap.size, i / 8, none⟩ (encB ((Lb.bitsTo x i).getD (i / 8) 0#8 ||| 1#8 <<< (i % 8)))).drew) wo.heap.size (.slice (some ⟨wo.heap.size, 0, none⟩) nb nb) (Lb.bitsTo x (i + 1))) := by
              show OwnG _ _ _ _ _ _
              rw [HN2.out]; exact (HO.out.put hbl.symm (i / 8) _).ext (Ext.drew _)
            generalize (Lb.bitsTo x i).getD (i / 8) 0#8 ||| 1#8 <<< (i % 8) = yb at *
            clear hcy hfy hlo hbl
            go_wp2_with fail
            refine HC.out.mono ?_
            rintro e w5 ⟨rfl, rfl⟩
            go_wp2_with fail
            refine ⟨?_, ?measure⟩
            apply Exists.intro
            repeat apply Exists.intro
            refine ⟨?rel, rfl⟩
            case rel => exact ⟨i + 1, by omega, by go_num, HO2, (HBX.out.set_off (by omega) _ _).ext (Ext.drew _), (HX.out.setOwn (Nat.le_refl _)).trans (Ext.drew _)⟩
            case measure => simp [intOf]; omega
        · have hin : i = n := by omega
          subst hin
          have hin2 : ¬ ((i : Int) < (i : Int)) := by omega
          have HBS : Hid (SliceAt encB wr (.slice (some ⟨wo.heap.size, 0, none⟩) nb nb) (Lb.bitsL x)) := by
            have := HO.out.slice
            rw [show Lb.bitsTo x i = Lb.bitsL x by unfold Lb.bitsL; rw [HN.out]] at this
            exact this
          have hbs8 : (Lb.bitsL x).length ≤ 50000 := by unfold Lb.bitsL; rw [HBL.out]; omega
          have HSy := Lib.hid (HS.out.ext HX.out)
          obtain ⟨Y, hYe⟩ : ∃ Y, y ++ uv (Lb.bitsL x).length ++ Lb.bitsL x = Y := ⟨_, rfl⟩
          have HYE := Lib.hid hYe
          have hYl : Y.length ≤ 10000 := by
            rw [← hYe, List.length_append, List.length_append]
            have h1 : (Lb.bitsL x).length ≤ 8 := by unfold Lb.bitsL; rw [HBL.out]; omega
            have h2 := (uv_len (Lb.bitsL x).length (by omega)).2
            have h3 : y.length ≤ 73 := by rw [← HY.out, List.length_append]; have := Lb.cfgB_len l.c HF.out.cfg; omega
            omega
          rw [hYe] at HP
          have hnm : ∀ n, n ∈ [bk, l.sum.toNat, l.root.toNat] → n < 18446744073709551616 := by
            intro n hn
            simp only [List.mem_cons, List.not_mem_nil, or_false] at hn
            have := l.sum.isLt
            have := l.root.isLt
            omega
          have hbx0 := HBX.out.cell 0 (v := .slice (some ⟨wo.heap.size, 0, none⟩) nb nb) rfl
          have hbxl := HBX.out.lt
          have HBq := Lib.hid (HB.out.ext HX.out)
          have k16 := HBq.out.cell 16 (v := .int .i64 bk) (by rw [HBK.out]; rfl)
          have k17 := HBq.out.cell 17 (v := encU l.sum) rfl
          have k18 := HBq.out.cell 18 (v := encU l.root) rfl
          have hgl := HBq.out.lt
          have HXw4 := Lib.hid (HXw.out.trans HX.out)
          generalize Lb.bitsL x = bs at *
          clear hYe HBL
          go_upto_region 15 with fail
          refine wp_region_extT (.take 0 (.take 1 (.take 3 (.take 4 (.take 5 (.take 6 (.take 7 (.take 8 (.take 9 (.two 2 10 (.one 10 (.one 11 (.take 12 .done))) (.one 2 (.one 11 (.take 12 .done))))))))))))) (by kernel_rfl) (by kernel_rfl) ?_
          iterate 9 (first
           | (refine extT_move rfl rfl (by rfl) (by rfl) ?_; simp only [Act.put, List.setIfInBounds_toArray, List.set_cons_zero, List.set_cons_succ])
           | (refine extT_assign rfl rfl (by rfl) (by rfl) ?_; simp only [Act.put, List.setIfInBounds_toArray, List.set_cons_zero, List.set_cons_succ])
           | (refine extT_pick_t rfl rfl (by rfl) (by rfl) (by rfl) ?_; simp only [Act.put, List.setIfInBounds_toArray, List.set_cons_zero, List.set_cons_succ])
           | (refine extT_pick_f rfl rfl (by rfl) (by rfl) (by rfl) ?_; simp only [Act.put, List.setIfInBounds_toArray, List.set_cons_zero, List.set_cons_succ])
           | (apply extT_take rfl (by rfl)
              · intro w' hS
                have hSc := hS.cells
                (try simp only [World.size_drew, World.cell?_drew] at hSc)
                go_simp
                (try simp (disch := omega) only [i64_id, u64_id, ↓IntWalk.iteOmega, Int.tdiv_eq_ediv_of_nonneg, Int.tmod_eq_emod_of_nonneg])
                try rfl
              simp only [Act.put, List.setIfInBounds_toArray, List.set_cons_zero, List.set_cons_succ])
           | (refine extT_pass rfl (by rfl) ?_; simp only [Act.put, List.setIfInBounds_toArray, List.set_cons_zero, List.set_cons_succ]))
          refine extT_two rfl rfl (by rfl) (by rfl) (fun K hK => ?_) (fun K hK => ?_)
          go_simp
          go_at_call 34
          refine (appendBytes_any _ _ y bs _ (by omega) hbs8 (HSy.out.ext (Ext.drew _)) (HBS.out.ext (Ext.drew _))).mono ?_
          rintro e wb ⟨vb, rfl, hob, hxb⟩
          rw [HYE.out] at hob
          have HOB := Lib.hid (OwnB.slice hob)
          have HXB := Lib.hid hxb
          refine hK _ _ (by first | exact hxb | exact (Ext.drew _).trans hxb) ?_
          clear hK K hob hxb
          (try simp only [Act.put, List.setIfInBounds_toArray, List.set_cons_zero, List.set_cons_succ])
          refine extT_do rfl (by rfl) (fun K hK => ?_)
          go_simp
          refine hK _ _ (by first | exact Ext.alloc _ _ | exact (Ext.drew _).trans (Ext.alloc _ _) | exact (Ext.alloc _ _).trans (Ext.drew _)) ?_
          clear hK K
          (try simp only [Act.put, List.setIfInBounds_toArray, List.set_cons_zero, List.set_cons_succ])
          refine extT_do rfl (by rfl) (fun K hK => ?_)
          go_simp
          go_at_call 32
          refine (numbers_any _ _ Y [bk, l.sum.toNat, l.root.toNat] _ hYl (by simp) hnm (by first | exact HOB.out.ext (Ext.alloc _ _) | exact HOB.out) (by first | exact (SliceAt.lit (enc := encM) wr.drew [bk, l.sum.toNat, l.root.toNat] _ (0, 0) _ rfl).ext HXB.out | exact SliceAt.lit (enc := encM) wb [bk, l.sum.toNat, l.root.toNat] _ (0, 0) _ rfl)).mono ?_
          rintro e wf ⟨vf, rfl, hsf, hxf⟩
          have HSF := Lib.hid hsf
          have HXF : Hid (Ext w wf) := Ext.trans HXw4.out (by first | exact Ext.trans (Ext.drew _) (Ext.trans HXB.out (Ext.trans (Ext.alloc _ _) hxf)) | exact Ext.trans (Ext.trans (Ext.drew _) (Ext.alloc _ _)) (Ext.trans HXB.out hxf))
          refine hK _ _ (by first | exact hxf | exact Ext.trans (Ext.alloc _ _) hxf) ?_
          clear hK K hsf hxf
          (try simp only [Act.put, List.setIfInBounds_toArray, List.set_cons_zero, List.set_cons_succ])
          iterate 1 (first
           | (refine extT_move rfl rfl (by rfl) (by rfl) ?_; simp only [Act.put, List.setIfInBounds_toArray, List.set_cons_zero, List.set_cons_succ])
           | (refine extT_assign rfl rfl (by rfl) (by rfl) ?_; simp only [Act.put, List.setIfInBounds_toArray, List.set_cons_zero, List.set_cons_succ])
           | (refine extT_pick_t rfl rfl (by rfl) (by rfl) (by rfl) ?_; simp only [Act.put, List.setIfInBounds_toArray, List.set_cons_zero, List.set_cons_succ])
           | (refine extT_pick_f rfl rfl (by rfl) (by rfl) (by rfl) ?_; simp only [Act.put, List.setIfInBounds_toArray, List.set_cons_zero, List.set_cons_succ])
           | (apply extT_take rfl (by rfl)
              · intro w' hS
                have hSc := hS.cells
                (try simp only [World.size_drew, World.cell?_drew] at hSc)
                go_simp
                (try simp (disch := omega) only [i64_id, u64_id, ↓IntWalk.iteOmega, Int.tdiv_eq_ediv_of_nonneg, Int.tmod_eq_emod_of_nonneg])
                try rfl
              simp only [Act.put, List.setIfInBounds_toArray, List.set_cons_zero, List.set_cons_succ])
           | (refine extT_pass rfl (by rfl) ?_; simp only [Act.put, List.setIfInBounds_toArray, List.set_cons_zero, List.set_cons_succ]))
          refine extT_nil ?_
          skip
          rotate_left
          go_simp
          refine hK _ _ (by first | exact Ext.alloc _ _ | exact (Ext.drew _).trans (Ext.alloc _ _) | exact (Ext.alloc _ _).trans (Ext.drew _)) ?_
          clear hK K
          (try simp only [Act.put, List.setIfInBounds_toArray, List.set_cons_zero, List.set_cons_succ])
          refine extT_do rfl (by rfl) (fun K hK => ?_)
          go_simp
          go_at_call 34
          refine (appendBytes_any _ _ y bs _ (by omega) hbs8 (HSy.out.ext ((Ext.drew _).trans (Ext.alloc _ _))) (HBS.out.ext ((Ext.drew _).trans (Ext.alloc _ _)))).mono ?_
          rintro e wb ⟨vb, rfl, hob, hxb⟩
          rw [HYE.out] at hob
          have HOB := Lib.hid (OwnB.slice hob)
          have HXB := Lib.hid hxb
          refine hK _ _ (by first | exact hxb | exact (Ext.drew _).trans hxb) ?_
          clear hK K hob hxb
          (try simp only [Act.put, List.setIfInBounds_toArray, List.set_cons_zero, List.set_cons_succ])
          refine extT_do rfl (by rfl) (fun K hK => ?_)
          go_simp
          go_at_call 32
          refine (numbers_any _ _ Y [bk, l.sum.toNat, l.root.toNat] _ hYl (by simp) hnm (by first | exact HOB.out.ext (Ext.alloc _ _) | exact HOB.out) (by first | exact (SliceAt.lit (enc := encM) wr.drew [bk, l.sum.toNat, l.root.toNat] _ (0, 0) _ rfl).ext HXB.out | exact SliceAt.lit (enc := encM) wb [bk, l.sum.toNat, l.root.toNat] _ (0, 0) _ rfl)).mono ?_
          rintro e wf ⟨vf, rfl, hsf, hxf⟩
          have HSF := Lib.hid hsf
          have HXF : Hid (Ext w wf) := Ext.trans HXw4.out (by first | exact Ext.trans (Ext.drew _) (Ext.trans HXB.out (Ext.trans (Ext.alloc _ _) hxf)) | exact Ext.trans (Ext.trans (Ext.drew _) (Ext.alloc _ _)) (Ext.trans HXB.out hxf))
          refine hK _ _ (by first | exact hxf | exact Ext.trans (Ext.alloc _ _) hxf) ?_
          clear hK K hsf hxf
          (try simp only [Act.put, List.setIfInBounds_toArray, List.set_cons_zero, List.set_cons_succ])
          iterate 1 (first
           | (refine extT_move rfl rfl (by rfl) (by rfl) ?_; simp only [Act.put, List.setIfInBounds_toArray, List.set_cons_zero, List.set_cons_succ])
           | (refine extT_assign rfl rfl (by rfl) (by rfl) ?_; simp only [Act.put, List.setIfInBounds_toArray, List.set_cons_zero, List.set_cons_succ])
           | (refine extT_pick_t rfl rfl (by rfl) (by rfl) (by rfl) ?_; simp only [Act.put, List.setIfInBounds_toArray, List.set_cons_zero, List.set_cons_succ])
           | (refine extT_pick_f rfl rfl (by rfl) (by rfl) (by rfl) ?_; simp only [Act.put, List.setIfInBounds_toArray, List.set_cons_zero, List.set_cons_succ])
           | (apply extT_take rfl (by rfl)
              · intro w' hS
                have hSc := hS.cells
                (try simp only [World.size_drew, World.cell?_drew] at hSc)
                go_simp
                (try simp (disch := omega) only [i64_id, u64_id, ↓IntWalk.iteOmega, Int.tdiv_eq_ediv_of_nonneg, Int.tmod_eq_emod_of_nonneg])
                try rfl
              simp only [Act.put, List.setIfInBounds_toArray, List.set_cons_zero, List.set_cons_succ])
           | (refine extT_pass rfl (by rfl) ?_; simp only [Act.put, List.setIfInBounds_toArray, List.set_cons_zero, List.set_cons_succ]))
          refine extT_nil ?_
          skip
          rotate_left
          all_goals
            go_wp2_with fail
            go_ret
            exact ⟨_, rfl, by rw [HP.out]; exact HSF.out, HXF.out⟩
end Go.Proofs.Ythjcdikpomlpmaa
