/-
  Chapter 26 (sumtree): the walk of SumtreeShares.
-/
import Derived.Test.YtdhlikjdcnfkpaaStR
namespace Go.Proofs.Ytdhlikjdcnfkpaa
open Go.RowKit
set_option linter.unusedVariables false

section
variable {P : Program} {l : List Oper} {Q : Exit → Act → World → Prop} {i : Nat} {o : Oper} {r : OT} {a : Act} {b w : World}
theorem extT_passB (ho : nth l i = some o) (hw : Region.wanted o (yielded l.toArray a.tmps) = false) (hb : Ext b w)
    (k : wpExtT P l Q r b (a.put o.dst undef) w) : wpExtT P l Q (.one i r) b a w := by
  unfold wpExtT wpT wpOp
  rw [nth_get ho]
  simp only [hw]
  exact ⟨Ext b, .inl fun _ h => h, hb, k⟩
end
theorem wp_of_listG {P : Program} {o : Oper} {a : Act} {w : World} {K : Act → World → Prop} {Q : Exit → Act → World → Prop}
    (h : wpList P #[] (Calm (fun _ a w => K a w)) [{ o with guard := none }] a w) : o.wp P a w K (Calm Q) := wp_of_list (o := { o with guard := none }) rfl h
set_option maxRecDepth 100000 in
set_option maxHeartbeats 4000000 in
theorem sumtreeShares_walk (vl : Value) (l : List (BitVec 64)) (i : Int) (x : BitVec 64) (w : World) (hi : I64 i) (hm : l.length ≤ maxLen) (h : SliceAt encU w vl l) :
    Calls Try.prog 10 #[vl, .int .i64 i, encU x] w fun e w' => e = .returned (.bool true) ∧ Below w.heap.size w w' := by
  obtain ⟨j0, hj, hj0, hj1, hj2⟩ := info_parts infoU
  obtain ⟨ad, cap, rfl⟩ := h.shape
  have HS := Lib.hid h
  clear h
  unfold maxLen at hm
  go_enter Try.func10, Try.ntmps10
  go_wp2_with fail
  go_at_call 11
  refine (awake_any _).mono ?_
  rintro e w1 ⟨rfl, hb1⟩
  have HX1 : Hid (Ext w w1) := hb1
  clear hb1
  by_cases hc : l.length ≤ 100 ∧ 0 ≤ i ∧ i < l.length
  · obtain ⟨hl, h0, hil⟩ := hc
    obtain ⟨k, rfl⟩ := Int.eq_ofNat_of_zero_le h0
    have hd : decide ((100 : Int) < (l.length : Int)) = false := by rw [decide_eq_false_iff_not]; omega
    have hk : k < l.length := by omega
    have hd2 : decide ((k : Int) < 0) = false := by rw [decide_eq_false_iff_not]; omega
    have hd3 : decide ((l.length : Int) ≤ (k : Int)) = false := by rw [decide_eq_false_iff_not]; omega
    have hd4 : decide (l.length ≤ k) = false := by rw [decide_eq_false_iff_not]; omega
    clear h0
    go_wp2_with fail
    go_at_call 13
    refine (build_any _ l _ (by omega) (HS.out.ext HX1.out)).mono ?_
    rintro e w2 ⟨P, rfl, ht, hb2⟩
    obtain ⟨ap, hTV⟩ := treeV_ptr l.length P
    have HTV := Lib.hid hTV
    rw [hTV]
    have e3 : Ext w2 (w2.alloc (.cells #[.int .i64 l.length, .int .i64 (hgt l.length), .pointer ap] 29)) := Ext.alloc _ _
    have HX3 : Hid (Ext w (w2.alloc (.cells #[.int .i64 l.length, .int .i64 (hgt l.length), .pointer ap] 29))) := HX1.out.trans (Ext.trans hb2 e3)
    have HB3 : Hid (BoxAt (w2.alloc (.cells #[.int .i64 l.length, .int .i64 (hgt l.length), .pointer ap] 29)) w2.heap.size #[.int .i64 l.length, .int .i64 (hgt l.length), .pointer ap] 29) := BoxAt.new _ _ _
    have HT3 := Lib.hid (ht.ext e3)
    clear ht hb2 hTV e3
    go_wp2_with fail
    generalize w2.alloc (.cells #[.int .i64 l.length, .int .i64 (hgt l.length), .pointer ap] 29) = w3 at *
    generalize w2.heap.size = gT at *
    go_at_call 22
    have hse := Set_any l P k x w3 (by omega) hk HT3.out
    rw [HTV.out] at hse
    refine hse.mono ?_
    rintro e w4 ⟨N, rfl, hu, hNf, hb4⟩
    obtain ⟨aq, hTQ⟩ := treeV_ptr l.length (newP P k N)
    have HTQ := Lib.hid hTQ
    rw [hTQ]
    have HSP : Hid (sameN P (newP P k N) l.length (hgt l.length) 0 + hgt l.length = allN l.length) := by
      have h := same_path (P := P) (Q := newP P k N) hk (fun m j hj => by unfold newP; rw [if_neg hj]) (fun m hm => by
        unfold newP
        rw [if_pos rfl]
        have h1 := (HT3.out m (k / 4 ^ m) hm (up_lt hk m)).1.1
        have h2 := hNf m hm
        omega) (hgt l.length) 0 (Nat.le_refl _)
      rw [if_pos (up_top hk).symm, cnt_top (by omega)] at h
      exact h
    have HX4 : Hid (Ext w3 w4) := hb4
    have e5 : Ext w4 (w4.alloc (.cells #[.int .i64 l.length, .int .i64 (hgt l.length), .pointer aq] 29)) := Ext.alloc _ _
    have HX5 : Hid (Ext w3 (w4.alloc (.cells #[.int .i64 l.length, .int .i64 (hgt l.length), .pointer aq] 29))) := HX4.out.trans e5
    have HU5 := Lib.hid (hu.ext e5)
    have HQ5 : Hid (BoxAt (w4.alloc (.cells #[.int .i64 l.length, .int .i64 (hgt l.length), .pointer aq] 29)) w4.heap.size #[.int .i64 l.length, .int .i64 (hgt l.length), .pointer aq] 29) := BoxAt.new _ _ _
    clear hu hNf hb4 hTQ e5 hse
    go_upto_region 5 with fail
    generalize w4.alloc (.cells #[.int .i64 l.length, .int .i64 (hgt l.length), .pointer aq] 29) = w5 at *
    generalize w4.heap.size = gQ at *
    go_wp2_with fail
    go_at_call 23
    refine (rnodes_any l.length _ (by omega)).mono ?_
    rintro e w6 ⟨rfl, hb6⟩
    have HX6 : Hid (Ext w5 w6) := hb6
    have HX36 : Hid (Ext w3 w6) := HX5.out.trans HX6.out
    have HX06 : Hid (Ext w w6) := HX3.out.trans HX36.out
    have HB6 := Lib.hid (HB3.out.ext HX36.out)
    have HQ6 := Lib.hid (HQ5.out.ext HX6.out)
    have HT6 := Lib.hid (HT3.out.ext HX36.out)
    have HU6 := Lib.hid (HU5.out.ext HX6.out)
    clear hb6
    have hc0 := HB6.out.cell 0 (v := .int .i64 l.length) rfl
    have hc1 := HB6.out.cell 1 (v := .int .i64 (hgt l.length)) rfl
    have hc2 := HB6.out.cell 2 (v := .pointer ap) rfl
    have hcl := HB6.out.lt
    have hq0 := HQ6.out.cell 0 (v := .int .i64 l.length) rfl
    have hq1 := HQ6.out.cell 1 (v := .int .i64 (hgt l.length)) rfl
    have hq2 := HQ6.out.cell 2 (v := .pointer aq) rfl
    have hql := HQ6.out.lt
    have HC1 : Hid (∀ wc, Ext w6 wc → Calls Try.prog 24 #[.agg #[.int .i64 l.length, .int .i64 (hgt l.length), .pointer ap], .agg #[.int .i64 l.length, .int .i64 (hgt l.length), .pointer ap]] wc (SameEnd wc (allN l.length))) := by
      intro wc hwc
      have h := Same_any l l P P wc (by omega) rfl (by omega) (HT6.out.ext hwc) (HT6.out.ext hwc)
      rw [same_self, cnt_top (by omega), HTV.out] at h
      exact h
    have HC2 : Hid (∀ wc, Ext w6 wc → Calls Try.prog 24 #[.agg #[.int .i64 l.length, .int .i64 (hgt l.length), .pointer ap], .agg #[.int .i64 l.length, .int .i64 (hgt l.length), .pointer aq]] wc (SameEnd wc (sameN P (newP P k N) l.length (hgt l.length) 0))) := by
      intro wc hwc
      have h := Same_any l (l.set k x) P (newP P k N) wc (by omega) (by rw [List.length_set]) (by omega) (HT6.out.ext hwc) (HU6.out.ext hwc)
      rw [List.length_set, HTQ.out, HTV.out] at h
      exact h
    have HC3 : Hid (∀ (m : Nat) (R : Nat → Nat → Nat) wc, m = l.length + 1 → Calls Try.prog 24 #[.agg #[.int .i64 l.length, .int .i64 (hgt l.length), .pointer ap], treeV m R] wc fun e w' => e = .returned (.int .i64 0) ∧ Ext wc w') := by
      intro m R wc hm
      have h := Same_no l.length m P R wc (by omega)
      rw [HTV.out] at h
      exact h
    obtain ⟨b, off, rfl, hb, hcc⟩ := (HS.out.ext HX06.out).get k hk
    obtain ⟨y, hy⟩ : ∃ y, l[k] = y := ⟨_, rfl⟩
    rw [hy] at hcc
    have hxy : (un x == un y) = decide (x = y) := eq_un x y
    have hA : allN l.length ≤ 262144 := by
      have h := cnt_small l.length (hgt l.length) 0
      rw [cnt_top (by omega)] at h
      have := pow_small (k := hgt l.length) (hgt_small (by omega))
      omega
    have hHs : hgt l.length ≤ 9 := hgt_small (by omega)
    obtain ⟨S, hS⟩ : ∃ S, sameN P (newP P k N) l.length (hgt l.length) 0 = S := ⟨_, rfl⟩
    obtain ⟨A, hAn⟩ : ∃ A, allN l.length = A := ⟨_, rfl⟩
    rw [hS] at HC2 HSP
    rw [hAn] at HSP HC1 hA ⊢
    have hSA := HSP.out
    have hsub : (A : Int) - (hgt l.length : Int) = (S : Int) := by omega
    have hsw : IntKind.i64.wrap (S : Int) = (S : Int) := wrapI_small (by omega) (by omega)
    have hS1 : S ≤ A := by omega
    clear hS hAn hSA hy HT6 HU6 HT3 HU5 HB3 HQ5
    generalize hgt l.length = H at *
    have hdd : decide ((S : Int) ≤ (S : Int)) = true := decide_eq_true (Int.le_refl _)
    have hee : ((S : Int) == (S : Int)) = true := by simp
    have heA : ((A : Int) == (A : Int)) = true := by simp
    by_cases hxx : x = y
    · have hxd : (un x == un y) = true := by rw [hxy]; exact decide_eq_true hxx
      have hxz : decide (x = y) = true := decide_eq_true hxx
      clear hxx hxy
      go_wp2_with fail
      refine wp_region_extTB (.take 0 (.take 1 (.take 2 (.take 3 (.take 4 (.take 6 (.one 5 (.take 7 (.take 8 (.take 9 (.take 10 (.take 11 (.take 13 (.take 14 (.take 15 (.one 12 (.take 16 (.take 17 (.take 18 (.take 19 (.take 20 (.take 21 (.take 22 (.take 23 (.take 24 (.take 25 (.take 26 (.take 27 (.take 29 (.take 30 (.take 31 (.one 28 (.take 32 (.take 33 (.take 34 (.take 35 (.take 36 (.take 38 (.two 37 40 (.two 39 40 (.one 40 (.one 41 (.one 42 (.one 43 (.take 44 (.take 45 (.take 46 .done))))))) (.one 39 (.one 41 (.one 42 (.one 43 (.take 44 (.take 45 (.take 46 .done)))))))) (.one 37 (.one 39 (.one 41 (.one 42 (.one 43 (.take 44 (.take 45 (.take 46 .done))))))))))))))))))))))))))))))))))))))))))))))) (by kernel_rfl) (by kernel_rfl) (fun wc hxc => ?_)
      iterate 6 (first
       | (refine extT_move rfl rfl (by rfl) (by rfl) ?_; simp only [Act.put, List.setIfInBounds_toArray, List.set_cons_zero, List.set_cons_succ])
       | (refine extT_assign rfl rfl (by rfl) (by rfl) ?_; simp only [Act.put, List.setIfInBounds_toArray, List.set_cons_zero, List.set_cons_succ])
       | (refine extT_pick_t rfl rfl (by rfl) (by rfl) (by rfl) ?_; simp only [Act.put, List.setIfInBounds_toArray, List.set_cons_zero, List.set_cons_succ])
       | (refine extT_pick_f rfl rfl (by rfl) (by rfl) (by rfl) ?_; simp only [Act.put, List.setIfInBounds_toArray, List.set_cons_zero, List.set_cons_succ])
       | (apply extT_take rfl (by rfl)
          · intro w' hS
            have hSc := hS.cells
            (try simp only [World.size_drew, World.cell?_drew] at hSc)
            go_simp
            (try simp (disch := omega) only [i64_id, u64_id, ↓IntWalk.iteOmega, Int.tdiv_eq_ediv_of_nonneg, Int.tmod_eq_emod_of_nonneg])
            try rfl
          simp only [Act.put, List.setIfInBounds_toArray, List.set_cons_zero, List.set_cons_succ])
       | (refine extT_pass rfl (by rfl) ?_; simp only [Act.put, List.setIfInBounds_toArray, List.set_cons_zero, List.set_cons_succ]))
      refine extT_doB rfl (by rfl) (fun K hK => ?_)
      go_simp
      go_at_call 24
      refine (HC1.out wc hxc).mono ?_
      rintro e wn ⟨rfl, hst⟩
      replace hst : Ext wc wn := hst
      refine hK _ _ (hxc.trans hst) ?_
      clear hK K
      replace hxc := hxc.trans hst
      clear hst
      generalize wn = wc at *
      (try simp only [Act.put, List.setIfInBounds_toArray, List.set_cons_zero, List.set_cons_succ])
      iterate 8 (first
       | (refine extT_move rfl rfl (by rfl) (by rfl) ?_; simp only [Act.put, List.setIfInBounds_toArray, List.set_cons_zero, List.set_cons_succ])
       | (refine extT_assign rfl rfl (by rfl) (by rfl) ?_; simp only [Act.put, List.setIfInBounds_toArray, List.set_cons_zero, List.set_cons_succ])
       | (refine extT_pick_t rfl rfl (by rfl) (by rfl) (by rfl) ?_; simp only [Act.put, List.setIfInBounds_toArray, List.set_cons_zero, List.set_cons_succ])
       | (refine extT_pick_f rfl rfl (by rfl) (by rfl) (by rfl) ?_; simp only [Act.put, List.setIfInBounds_toArray, List.set_cons_zero, List.set_cons_succ])
       | (apply extT_take rfl (by rfl)
          · intro w' hS
            have hSc := hS.cells
            (try simp only [World.size_drew, World.cell?_drew] at hSc)
            go_simp
            (try simp (disch := omega) only [i64_id, u64_id, ↓IntWalk.iteOmega, Int.tdiv_eq_ediv_of_nonneg, Int.tmod_eq_emod_of_nonneg])
            try rfl
          simp only [Act.put, List.setIfInBounds_toArray, List.set_cons_zero, List.set_cons_succ])
       | (refine extT_pass rfl (by rfl) ?_; simp only [Act.put, List.setIfInBounds_toArray, List.set_cons_zero, List.set_cons_succ]))
      refine extT_doB rfl (by rfl) (fun K hK => ?_)
      go_simp
      go_at_call 24
      refine (HC2.out wc hxc).mono ?_
      rintro e wn ⟨rfl, hst⟩
      replace hst : Ext wc wn := hst
      refine hK _ _ (hxc.trans hst) ?_
      clear hK K
      replace hxc := hxc.trans hst
      clear hst
      generalize wn = wc at *
      (try simp only [Act.put, List.setIfInBounds_toArray, List.set_cons_zero, List.set_cons_succ])
      iterate 15 (first
       | (refine extT_move rfl rfl (by rfl) (by rfl) ?_; simp only [Act.put, List.setIfInBounds_toArray, List.set_cons_zero, List.set_cons_succ])
       | (refine extT_assign rfl rfl (by rfl) (by rfl) ?_; simp only [Act.put, List.setIfInBounds_toArray, List.set_cons_zero, List.set_cons_succ])
       | (refine extT_pick_t rfl rfl (by rfl) (by rfl) (by rfl) ?_; simp only [Act.put, List.setIfInBounds_toArray, List.set_cons_zero, List.set_cons_succ])
       | (refine extT_pick_f rfl rfl (by rfl) (by rfl) (by rfl) ?_; simp only [Act.put, List.setIfInBounds_toArray, List.set_cons_zero, List.set_cons_succ])
       | (apply extT_take rfl (by rfl)
          · intro w' hS
            have hSc := hS.cells
            (try simp only [World.size_drew, World.cell?_drew] at hSc)
            go_simp
            (try simp (disch := omega) only [i64_id, u64_id, ↓IntWalk.iteOmega, Int.tdiv_eq_ediv_of_nonneg, Int.tmod_eq_emod_of_nonneg])
            try rfl
          simp only [Act.put, List.setIfInBounds_toArray, List.set_cons_zero, List.set_cons_succ])
       | (refine extT_pass rfl (by rfl) ?_; simp only [Act.put, List.setIfInBounds_toArray, List.set_cons_zero, List.set_cons_succ]))
      (refine extT_passB rfl (by rfl) hxc ?_; simp only [Act.put, List.setIfInBounds_toArray, List.set_cons_zero, List.set_cons_succ])
      iterate 6 (first
       | (refine extT_move rfl rfl (by rfl) (by rfl) ?_; simp only [Act.put, List.setIfInBounds_toArray, List.set_cons_zero, List.set_cons_succ])
       | (refine extT_assign rfl rfl (by rfl) (by rfl) ?_; simp only [Act.put, List.setIfInBounds_toArray, List.set_cons_zero, List.set_cons_succ])
       | (refine extT_pick_t rfl rfl (by rfl) (by rfl) (by rfl) ?_; simp only [Act.put, List.setIfInBounds_toArray, List.set_cons_zero, List.set_cons_succ])
       | (refine extT_pick_f rfl rfl (by rfl) (by rfl) (by rfl) ?_; simp only [Act.put, List.setIfInBounds_toArray, List.set_cons_zero, List.set_cons_succ])
       | (apply extT_take rfl (by rfl)
          · intro w' hS
            have hSc := hS.cells
            (try simp only [World.size_drew, World.cell?_drew] at hSc)
            go_simp
            (try simp (disch := omega) only [i64_id, u64_id, ↓IntWalk.iteOmega, Int.tdiv_eq_ediv_of_nonneg, Int.tmod_eq_emod_of_nonneg])
            try rfl
          simp only [Act.put, List.setIfInBounds_toArray, List.set_cons_zero, List.set_cons_succ])
       | (refine extT_pass rfl (by rfl) ?_; simp only [Act.put, List.setIfInBounds_toArray, List.set_cons_zero, List.set_cons_succ]))
      refine extT_twoB rfl rfl (by rfl) (by rfl) (fun K hK => ?_) (fun K hK => ?_)
      go_simp
      have hst : Ext wc (wc.alloc (.cells #[] 34)) := Ext.alloc _ _
      have hq37 : OwnG encU 34 (wc.alloc (.cells #[] 34)) w6.heap.size (.slice (some ⟨wc.heap.size, 0, none⟩) 0 0) [] := OwnG.lit (enc := encU) wc [] 34 w6.heap.size hxc.size (Nat.zero_le _) #[] rfl
      skip
      refine hK _ _ (hxc.trans hst) ?_
      clear hK K
      replace hxc := hxc.trans hst
      clear hst
      generalize wc.alloc (.cells #[] 34) = wn at *
      generalize wc.heap.size = q37 at *
      generalize wn = wc at *
      (try simp only [Act.put, List.setIfInBounds_toArray, List.set_cons_zero, List.set_cons_succ])
      refine extT_twoB rfl rfl (by rfl) (by rfl) (fun K hK => ?_) (fun K hK => ?_)
      refine wp_of_listG ?_
      refine wpList_append_lit (enc := encU) (fun _ => rfl) rfl _ _ 22 rfl 34 j0 (.int .u64 0) 8 Try.underlying22 hj hj0 hj1 hj2 rfl w6.heap.size _ rfl hq37 hxc.size _ l rfl (HS.out.ext (HX06.out.trans hxc)) (by unfold maxLen; omega) (by omega) ?_
      intro v39 wn ho39 hst _
      skip
      replace hq37 := hq37.ext hst
      refine hK _ _ (hxc.trans hst) ?_
      clear hK K
      replace hxc := hxc.trans hst
      clear hst
      generalize wn = wc at *
      (try simp only [Act.put, List.setIfInBounds_toArray, List.set_cons_zero, List.set_cons_succ])
      refine extT_doB rfl (by rfl) (fun K hK => ?_)
      go_simp
      have hst : Ext wc (wc.alloc (.cells #[.int .u64 1] 34)) := Ext.alloc _ _
      have hb40 : BoxAt (wc.alloc (.cells #[.int .u64 1] 34)) wc.heap.size #[encU 1#64] 34 := BoxAt.new _ _ _
      replace hq37 := hq37.ext hst
      replace ho39 := ho39.ext hst
      refine hK _ _ (hxc.trans hst) ?_
      clear hK K
      replace hxc := hxc.trans hst
      clear hst
      generalize wc.alloc (.cells #[.int .u64 1] 34) = wn at *
      generalize wc.heap.size = q40 at *
      generalize wn = wc at *
      (try simp only [Act.put, List.setIfInBounds_toArray, List.set_cons_zero, List.set_cons_succ])
      refine extT_doB rfl (by rfl) (fun K hK => ?_)
      refine wp_of_listG ?_
      refine wpList_append_one rfl _ _ 22 rfl w6.heap.size 34 j0 (.int .u64 0) 8 Try.underlying22 hj hj0 hj1 hj2 rfl _ _ _ rfl ho39 _ (encU 1#64) rfl rfl (hb40.cell 0 rfl) (by unfold maxLen; omega) (by omega) hxc.size ?_
      intro v41 wn ho41 hg41 _
      have hxn : Ext w6 wn := Below.grown hxc hg41 hxc.size (fun q hq => (ho39.lt q hq).1)
      replace ho41 : OwnG encU 34 wn w6.heap.size v41 (l ++ [1#64]) := OwnG.snoc (enc := encU) (x := 1#64) ho41
      refine hK _ _ hxn ?_
      clear hK K hg41 hb40 hq37 ho39
      replace hxc := hxn
      clear hxn
      generalize wn = wc at *
      (try simp only [Act.put, List.setIfInBounds_toArray, List.set_cons_zero, List.set_cons_succ])
      refine extT_doB rfl (by rfl) (fun K hK => ?_)
      have HO41 := Lib.hid ho41
      clear ho41
      go_simp
      go_at_call 13
      refine (build_any v41 (l ++ [1#64]) wc (by rw [List.length_append, List.length_singleton]; omega) HO41.out.slice).mono ?_
      rintro e wn ⟨R, rfl, _, hst⟩
      replace hst : Ext wc wn := hst
      refine hK _ _ (hxc.trans hst) ?_
      clear hK K
      replace hxc := hxc.trans hst
      clear hst
      generalize wn = wc at *
      (try simp only [Act.put, List.setIfInBounds_toArray, List.set_cons_zero, List.set_cons_succ])
      refine extT_doB rfl (by rfl) (fun K hK => ?_)
      go_simp
      go_at_call 24
      refine (HC3.out _ R wc (by simp)).mono ?_
      rintro e wn ⟨rfl, hst⟩
      replace hst : Ext wc wn := hst
      refine hK _ _ (hxc.trans hst) ?_
      clear hK K
      replace hxc := hxc.trans hst
      clear hst
      generalize wn = wc at *
      (try simp only [Act.put, List.setIfInBounds_toArray, List.set_cons_zero, List.set_cons_succ])
      iterate 3 (first
       | (refine extT_move rfl rfl (by rfl) (by rfl) ?_; simp only [Act.put, List.setIfInBounds_toArray, List.set_cons_zero, List.set_cons_succ])
       | (refine extT_assign rfl rfl (by rfl) (by rfl) ?_; simp only [Act.put, List.setIfInBounds_toArray, List.set_cons_zero, List.set_cons_succ])
       | (refine extT_pick_t rfl rfl (by rfl) (by rfl) (by rfl) ?_; simp only [Act.put, List.setIfInBounds_toArray, List.set_cons_zero, List.set_cons_succ])
       | (refine extT_pick_f rfl rfl (by rfl) (by rfl) (by rfl) ?_; simp only [Act.put, List.setIfInBounds_toArray, List.set_cons_zero, List.set_cons_succ])
       | (apply extT_take rfl (by rfl)
          · intro w' hS
            have hSc := hS.cells
            (try simp only [World.size_drew, World.cell?_drew] at hSc)
            go_simp
            (try simp (disch := omega) only [i64_id, u64_id, ↓IntWalk.iteOmega, Int.tdiv_eq_ediv_of_nonneg, Int.tmod_eq_emod_of_nonneg])
            try rfl
          simp only [Act.put, List.setIfInBounds_toArray, List.set_cons_zero, List.set_cons_succ])
       | (refine extT_pass rfl (by rfl) ?_; simp only [Act.put, List.setIfInBounds_toArray, List.set_cons_zero, List.set_cons_succ]))
      refine extT_nil ?_
      (go_wp2_with fail; go_ret; exact ⟨rfl, HX06.out.trans hxc⟩)
      skip
      go_simp
      have hst : Ext wc (wc.alloc (.cells #[.int .u64 1] 34)) := Ext.alloc _ _
      have hb40 : BoxAt (wc.alloc (.cells #[.int .u64 1] 34)) wc.heap.size #[encU 1#64] 34 := BoxAt.new _ _ _
      replace hq37 := hq37.ext hst
      skip
      refine hK _ _ (hxc.trans hst) ?_
      clear hK K
      replace hxc := hxc.trans hst
      clear hst
      generalize wc.alloc (.cells #[.int .u64 1] 34) = wn at *
      generalize wc.heap.size = q40 at *
      generalize wn = wc at *
      (try simp only [Act.put, List.setIfInBounds_toArray, List.set_cons_zero, List.set_cons_succ])
      refine extT_doB rfl (by rfl) (fun K hK => ?_)
      refine wp_of_listG ?_
      refine wpList_append_lit (enc := encU) (fun _ => rfl) rfl _ _ 22 rfl 34 j0 (.int .u64 0) 8 Try.underlying22 hj hj0 hj1 hj2 rfl w6.heap.size _ rfl hq37 hxc.size _ l rfl (HS.out.ext (HX06.out.trans hxc)) (by unfold maxLen; omega) (by omega) ?_
      intro v39 wn ho39 hst _
      replace hb40 := hb40.ext hst
      replace hq37 := hq37.ext hst
      refine hK _ _ (hxc.trans hst) ?_
      clear hK K
      replace hxc := hxc.trans hst
      clear hst
      generalize wn = wc at *
      (try simp only [Act.put, List.setIfInBounds_toArray, List.set_cons_zero, List.set_cons_succ])
      refine extT_doB rfl (by rfl) (fun K hK => ?_)
      refine wp_of_listG ?_
      refine wpList_append_one rfl _ _ 22 rfl w6.heap.size 34 j0 (.int .u64 0) 8 Try.underlying22 hj hj0 hj1 hj2 rfl _ _ _ rfl ho39 _ (encU 1#64) rfl rfl (hb40.cell 0 rfl) (by unfold maxLen; omega) (by omega) hxc.size ?_
      intro v41 wn ho41 hg41 _
      have hxn : Ext w6 wn := Below.grown hxc hg41 hxc.size (fun q hq => (ho39.lt q hq).1)
      replace ho41 : OwnG encU 34 wn w6.heap.size v41 (l ++ [1#64]) := OwnG.snoc (enc := encU) (x := 1#64) ho41
      refine hK _ _ hxn ?_
      clear hK K hg41 hb40 hq37 ho39
      replace hxc := hxn
      clear hxn
      generalize wn = wc at *
      (try simp only [Act.put, List.setIfInBounds_toArray, List.set_cons_zero, List.set_cons_succ])
      refine extT_doB rfl (by rfl) (fun K hK => ?_)
      have HO41 := Lib.hid ho41
      clear ho41
      go_simp
      go_at_call 13
      refine (build_any v41 (l ++ [1#64]) wc (by rw [List.length_append, List.length_singleton]; omega) HO41.out.slice).mono ?_
      rintro e wn ⟨R, rfl, _, hst⟩
      replace hst : Ext wc wn := hst
      refine hK _ _ (hxc.trans hst) ?_
      clear hK K
      replace hxc := hxc.trans hst
      clear hst
      generalize wn = wc at *
      (try simp only [Act.put, List.setIfInBounds_toArray, List.set_cons_zero, List.set_cons_succ])
      refine extT_doB rfl (by rfl) (fun K hK => ?_)
      go_simp
      go_at_call 24
      refine (HC3.out _ R wc (by simp)).mono ?_
      rintro e wn ⟨rfl, hst⟩
      replace hst : Ext wc wn := hst
      refine hK _ _ (hxc.trans hst) ?_
      clear hK K
      replace hxc := hxc.trans hst
      clear hst
      generalize wn = wc at *
      (try simp only [Act.put, List.setIfInBounds_toArray, List.set_cons_zero, List.set_cons_succ])
      iterate 3 (first
       | (refine extT_move rfl rfl (by rfl) (by rfl) ?_; simp only [Act.put, List.setIfInBounds_toArray, List.set_cons_zero, List.set_cons_succ])
       | (refine extT_assign rfl rfl (by rfl) (by rfl) ?_; simp only [Act.put, List.setIfInBounds_toArray, List.set_cons_zero, List.set_cons_succ])
       | (refine extT_pick_t rfl rfl (by rfl) (by rfl) (by rfl) ?_; simp only [Act.put, List.setIfInBounds_toArray, List.set_cons_zero, List.set_cons_succ])
       | (refine extT_pick_f rfl rfl (by rfl) (by rfl) (by rfl) ?_; simp only [Act.put, List.setIfInBounds_toArray, List.set_cons_zero, List.set_cons_succ])
       | (apply extT_take rfl (by rfl)
          · intro w' hS
            have hSc := hS.cells
            (try simp only [World.size_drew, World.cell?_drew] at hSc)
            go_simp
            (try simp (disch := omega) only [i64_id, u64_id, ↓IntWalk.iteOmega, Int.tdiv_eq_ediv_of_nonneg, Int.tmod_eq_emod_of_nonneg])
            try rfl
          simp only [Act.put, List.setIfInBounds_toArray, List.set_cons_zero, List.set_cons_succ])
       | (refine extT_pass rfl (by rfl) ?_; simp only [Act.put, List.setIfInBounds_toArray, List.set_cons_zero, List.set_cons_succ]))
      refine extT_nil ?_
      (go_wp2_with fail; go_ret; exact ⟨rfl, HX06.out.trans hxc⟩)
      skip
      go_simp
      have hst : Ext wc (wc.alloc (.cells #[.int .u64 1] 34)) := Ext.alloc _ _
      have hb40 : BoxAt (wc.alloc (.cells #[.int .u64 1] 34)) wc.heap.size #[encU 1#64] 34 := BoxAt.new _ _ _
      skip
      skip
      refine hK _ _ (hxc.trans hst) ?_
      clear hK K
      replace hxc := hxc.trans hst
      clear hst
      generalize wc.alloc (.cells #[.int .u64 1] 34) = wn at *
      generalize wc.heap.size = q40 at *
      generalize wn = wc at *
      (try simp only [Act.put, List.setIfInBounds_toArray, List.set_cons_zero, List.set_cons_succ])
      refine extT_doB rfl (by rfl) (fun K hK => ?_)
      go_simp
      have hst : Ext wc (wc.alloc (.cells #[] 34)) := Ext.alloc _ _
      have hq37 : OwnG encU 34 (wc.alloc (.cells #[] 34)) w6.heap.size (.slice (some ⟨wc.heap.size, 0, none⟩) 0 0) [] := OwnG.lit (enc := encU) wc [] 34 w6.heap.size hxc.size (Nat.zero_le _) #[] rfl
      replace hb40 := hb40.ext hst
      refine hK _ _ (hxc.trans hst) ?_
      clear hK K
      replace hxc := hxc.trans hst
      clear hst
      generalize wc.alloc (.cells #[] 34) = wn at *
      generalize wc.heap.size = q37 at *
      generalize wn = wc at *
      (try simp only [Act.put, List.setIfInBounds_toArray, List.set_cons_zero, List.set_cons_succ])
      refine extT_doB rfl (by rfl) (fun K hK => ?_)
      refine wp_of_listG ?_
      refine wpList_append_lit (enc := encU) (fun _ => rfl) rfl _ _ 22 rfl 34 j0 (.int .u64 0) 8 Try.underlying22 hj hj0 hj1 hj2 rfl w6.heap.size _ rfl hq37 hxc.size _ l rfl (HS.out.ext (HX06.out.trans hxc)) (by unfold maxLen; omega) (by omega) ?_
      intro v39 wn ho39 hst _
      replace hb40 := hb40.ext hst
      replace hq37 := hq37.ext hst
      refine hK _ _ (hxc.trans hst) ?_
      clear hK K
      replace hxc := hxc.trans hst
      clear hst
      generalize wn = wc at *
      (try simp only [Act.put, List.setIfInBounds_toArray, List.set_cons_zero, List.set_cons_succ])
      refine extT_doB rfl (by rfl) (fun K hK => ?_)
      refine wp_of_listG ?_
      refine wpList_append_one rfl _ _ 22 rfl w6.heap.size 34 j0 (.int .u64 0) 8 Try.underlying22 hj hj0 hj1 hj2 rfl _ _ _ rfl ho39 _ (encU 1#64) rfl rfl (hb40.cell 0 rfl) (by unfold maxLen; omega) (by omega) hxc.size ?_
      intro v41 wn ho41 hg41 _
      have hxn : Ext w6 wn := Below.grown hxc hg41 hxc.size (fun q hq => (ho39.lt q hq).1)
      replace ho41 : OwnG encU 34 wn w6.heap.size v41 (l ++ [1#64]) := OwnG.snoc (enc := encU) (x := 1#64) ho41
      refine hK _ _ hxn ?_
      clear hK K hg41 hb40 hq37 ho39
      replace hxc := hxn
      clear hxn
      generalize wn = wc at *
      (try simp only [Act.put, List.setIfInBounds_toArray, List.set_cons_zero, List.set_cons_succ])
      refine extT_doB rfl (by rfl) (fun K hK => ?_)
      have HO41 := Lib.hid ho41
      clear ho41
      go_simp
      go_at_call 13
      refine (build_any v41 (l ++ [1#64]) wc (by rw [List.length_append, List.length_singleton]; omega) HO41.out.slice).mono ?_
      rintro e wn ⟨R, rfl, _, hst⟩
      replace hst : Ext wc wn := hst
      refine hK _ _ (hxc.trans hst) ?_
      clear hK K
      replace hxc := hxc.trans hst
      clear hst
      generalize wn = wc at *
      (try simp only [Act.put, List.setIfInBounds_toArray, List.set_cons_zero, List.set_cons_succ])
      refine extT_doB rfl (by rfl) (fun K hK => ?_)
      go_simp
      go_at_call 24
      refine (HC3.out _ R wc (by simp)).mono ?_
      rintro e wn ⟨rfl, hst⟩
      replace hst : Ext wc wn := hst
      refine hK _ _ (hxc.trans hst) ?_
      clear hK K
      replace hxc := hxc.trans hst
      clear hst
      generalize wn = wc at *
      (try simp only [Act.put, List.setIfInBounds_toArray, List.set_cons_zero, List.set_cons_succ])
      iterate 3 (first
       | (refine extT_move rfl rfl (by rfl) (by rfl) ?_; simp only [Act.put, List.setIfInBounds_toArray, List.set_cons_zero, List.set_cons_succ])
       | (refine extT_assign rfl rfl (by rfl) (by rfl) ?_; simp only [Act.put, List.setIfInBounds_toArray, List.set_cons_zero, List.set_cons_succ])
       | (refine extT_pick_t rfl rfl (by rfl) (by rfl) (by rfl) ?_; simp only [Act.put, List.setIfInBounds_toArray, List.set_cons_zero, List.set_cons_succ])
       | (refine extT_pick_f rfl rfl (by rfl) (by rfl) (by rfl) ?_; simp only [Act.put, List.setIfInBounds_toArray, List.set_cons_zero, List.set_cons_succ])
       | (apply extT_take rfl (by rfl)
          · intro w' hS
            have hSc := hS.cells
            (try simp only [World.size_drew, World.cell?_drew] at hSc)
            go_simp
            (try simp (disch := omega) only [i64_id, u64_id, ↓IntWalk.iteOmega, Int.tdiv_eq_ediv_of_nonneg, Int.tmod_eq_emod_of_nonneg])
            try rfl
          simp only [Act.put, List.setIfInBounds_toArray, List.set_cons_zero, List.set_cons_succ])
       | (refine extT_pass rfl (by rfl) ?_; simp only [Act.put, List.setIfInBounds_toArray, List.set_cons_zero, List.set_cons_succ]))
      refine extT_nil ?_
      (go_wp2_with fail; go_ret; exact ⟨rfl, HX06.out.trans hxc⟩)
      skip
    · have hxd : (un x == un y) = false := by rw [hxy]; exact decide_eq_false hxx
      have hxz : decide (x = y) = false := decide_eq_false hxx
      clear hxx hxy
      go_wp2_with fail
      refine wp_region_extTB (.take 0 (.take 1 (.take 2 (.take 3 (.take 4 (.take 6 (.one 5 (.take 7 (.take 8 (.take 9 (.take 10 (.take 11 (.take 13 (.take 14 (.take 15 (.one 12 (.take 16 (.take 17 (.take 18 (.take 19 (.take 20 (.take 21 (.take 22 (.take 23 (.take 24 (.take 25 (.take 26 (.take 27 (.take 29 (.take 30 (.take 31 (.one 28 (.take 32 (.take 33 (.take 34 (.take 35 (.take 36 (.take 38 (.two 37 40 (.two 39 40 (.one 40 (.one 41 (.one 42 (.one 43 (.take 44 (.take 45 (.take 46 .done))))))) (.one 39 (.one 41 (.one 42 (.one 43 (.take 44 (.take 45 (.take 46 .done)))))))) (.one 37 (.one 39 (.one 41 (.one 42 (.one 43 (.take 44 (.take 45 (.take 46 .done))))))))))))))))))))))))))))))))))))))))))))))) (by kernel_rfl) (by kernel_rfl) (fun wc hxc => ?_)
      iterate 6 (first
       | (refine extT_move rfl rfl (by rfl) (by rfl) ?_; simp only [Act.put, List.setIfInBounds_toArray, List.set_cons_zero, List.set_cons_succ])
       | (refine extT_assign rfl rfl (by rfl) (by rfl) ?_; simp only [Act.put, List.setIfInBounds_toArray, List.set_cons_zero, List.set_cons_succ])
       | (refine extT_pick_t rfl rfl (by rfl) (by rfl) (by rfl) ?_; simp only [Act.put, List.setIfInBounds_toArray, List.set_cons_zero, List.set_cons_succ])
       | (refine extT_pick_f rfl rfl (by rfl) (by rfl) (by rfl) ?_; simp only [Act.put, List.setIfInBounds_toArray, List.set_cons_zero, List.set_cons_succ])
       | (apply extT_take rfl (by rfl)
          · intro w' hS
            have hSc := hS.cells
            (try simp only [World.size_drew, World.cell?_drew] at hSc)
            go_simp
            (try simp (disch := omega) only [i64_id, u64_id, ↓IntWalk.iteOmega, Int.tdiv_eq_ediv_of_nonneg, Int.tmod_eq_emod_of_nonneg])
            try rfl
          simp only [Act.put, List.setIfInBounds_toArray, List.set_cons_zero, List.set_cons_succ])
       | (refine extT_pass rfl (by rfl) ?_; simp only [Act.put, List.setIfInBounds_toArray, List.set_cons_zero, List.set_cons_succ]))
      refine extT_doB rfl (by rfl) (fun K hK => ?_)
      go_simp
      go_at_call 24
      refine (HC1.out wc hxc).mono ?_
      rintro e wn ⟨rfl, hst⟩
      replace hst : Ext wc wn := hst
      refine hK _ _ (hxc.trans hst) ?_
      clear hK K
      replace hxc := hxc.trans hst
      clear hst
      generalize wn = wc at *
      (try simp only [Act.put, List.setIfInBounds_toArray, List.set_cons_zero, List.set_cons_succ])
      iterate 8 (first
       | (refine extT_move rfl rfl (by rfl) (by rfl) ?_; simp only [Act.put, List.setIfInBounds_toArray, List.set_cons_zero, List.set_cons_succ])
       | (refine extT_assign rfl rfl (by rfl) (by rfl) ?_; simp only [Act.put, List.setIfInBounds_toArray, List.set_cons_zero, List.set_cons_succ])
       | (refine extT_pick_t rfl rfl (by rfl) (by rfl) (by rfl) ?_; simp only [Act.put, List.setIfInBounds_toArray, List.set_cons_zero, List.set_cons_succ])
       | (refine extT_pick_f rfl rfl (by rfl) (by rfl) (by rfl) ?_; simp only [Act.put, List.setIfInBounds_toArray, List.set_cons_zero, List.set_cons_succ])
       | (apply extT_take rfl (by rfl)
          · intro w' hS
            have hSc := hS.cells
            (try simp only [World.size_drew, World.cell?_drew] at hSc)
            go_simp
            (try simp (disch := omega) only [i64_id, u64_id, ↓IntWalk.iteOmega, Int.tdiv_eq_ediv_of_nonneg, Int.tmod_eq_emod_of_nonneg])
            try rfl
          simp only [Act.put, List.setIfInBounds_toArray, List.set_cons_zero, List.set_cons_succ])
       | (refine extT_pass rfl (by rfl) ?_; simp only [Act.put, List.setIfInBounds_toArray, List.set_cons_zero, List.set_cons_succ]))
      refine extT_doB rfl (by rfl) (fun K hK => ?_)
      go_simp
      go_at_call 24
      refine (HC2.out wc hxc).mono ?_
      rintro e wn ⟨rfl, hst⟩
      replace hst : Ext wc wn := hst
      refine hK _ _ (hxc.trans hst) ?_
      clear hK K
      replace hxc := hxc.trans hst
      clear hst
      generalize wn = wc at *
      (try simp only [Act.put, List.setIfInBounds_toArray, List.set_cons_zero, List.set_cons_succ])
      iterate 15 (first
       | (refine extT_move rfl rfl (by rfl) (by rfl) ?_; simp only [Act.put, List.setIfInBounds_toArray, List.set_cons_zero, List.set_cons_succ])
       | (refine extT_assign rfl rfl (by rfl) (by rfl) ?_; simp only [Act.put, List.setIfInBounds_toArray, List.set_cons_zero, List.set_cons_succ])
       | (refine extT_pick_t rfl rfl (by rfl) (by rfl) (by rfl) ?_; simp only [Act.put, List.setIfInBounds_toArray, List.set_cons_zero, List.set_cons_succ])
       | (refine extT_pick_f rfl rfl (by rfl) (by rfl) (by rfl) ?_; simp only [Act.put, List.setIfInBounds_toArray, List.set_cons_zero, List.set_cons_succ])
       | (apply extT_take rfl (by rfl)
          · intro w' hS
            have hSc := hS.cells
            (try simp only [World.size_drew, World.cell?_drew] at hSc)
            go_simp
            (try simp (disch := omega) only [i64_id, u64_id, ↓IntWalk.iteOmega, Int.tdiv_eq_ediv_of_nonneg, Int.tmod_eq_emod_of_nonneg])
            try rfl
          simp only [Act.put, List.setIfInBounds_toArray, List.set_cons_zero, List.set_cons_succ])
       | (refine extT_pass rfl (by rfl) ?_; simp only [Act.put, List.setIfInBounds_toArray, List.set_cons_zero, List.set_cons_succ]))
      refine extT_doB rfl (by rfl) (fun K hK => ?_)
      go_simp
      go_at_call 24
      refine (HC2.out wc hxc).mono ?_
      rintro e wn ⟨rfl, hst⟩
      replace hst : Ext wc wn := hst
      refine hK _ _ (hxc.trans hst) ?_
      clear hK K
      replace hxc := hxc.trans hst
      clear hst
      generalize wn = wc at *
      (try simp only [Act.put, List.setIfInBounds_toArray, List.set_cons_zero, List.set_cons_succ])
      iterate 6 (first
       | (refine extT_move rfl rfl (by rfl) (by rfl) ?_; simp only [Act.put, List.setIfInBounds_toArray, List.set_cons_zero, List.set_cons_succ])
       | (refine extT_assign rfl rfl (by rfl) (by rfl) ?_; simp only [Act.put, List.setIfInBounds_toArray, List.set_cons_zero, List.set_cons_succ])
       | (refine extT_pick_t rfl rfl (by rfl) (by rfl) (by rfl) ?_; simp only [Act.put, List.setIfInBounds_toArray, List.set_cons_zero, List.set_cons_succ])
       | (refine extT_pick_f rfl rfl (by rfl) (by rfl) (by rfl) ?_; simp only [Act.put, List.setIfInBounds_toArray, List.set_cons_zero, List.set_cons_succ])
       | (apply extT_take rfl (by rfl)
          · intro w' hS
            have hSc := hS.cells
            (try simp only [World.size_drew, World.cell?_drew] at hSc)
            go_simp
            (try simp (disch := omega) only [i64_id, u64_id, ↓IntWalk.iteOmega, Int.tdiv_eq_ediv_of_nonneg, Int.tmod_eq_emod_of_nonneg])
            try rfl
          simp only [Act.put, List.setIfInBounds_toArray, List.set_cons_zero, List.set_cons_succ])
       | (refine extT_pass rfl (by rfl) ?_; simp only [Act.put, List.setIfInBounds_toArray, List.set_cons_zero, List.set_cons_succ]))
      refine extT_twoB rfl rfl (by rfl) (by rfl) (fun K hK => ?_) (fun K hK => ?_)
      go_simp
      have hst : Ext wc (wc.alloc (.cells #[] 34)) := Ext.alloc _ _
      have hq37 : OwnG encU 34 (wc.alloc (.cells #[] 34)) w6.heap.size (.slice (some ⟨wc.heap.size, 0, none⟩) 0 0) [] := OwnG.lit (enc := encU) wc [] 34 w6.heap.size hxc.size (Nat.zero_le _) #[] rfl
      skip
      refine hK _ _ (hxc.trans hst) ?_
      clear hK K
      replace hxc := hxc.trans hst
      clear hst
      generalize wc.alloc (.cells #[] 34) = wn at *
      generalize wc.heap.size = q37 at *
      generalize wn = wc at *
      (try simp only [Act.put, List.setIfInBounds_toArray, List.set_cons_zero, List.set_cons_succ])
      refine extT_twoB rfl rfl (by rfl) (by rfl) (fun K hK => ?_) (fun K hK => ?_)
      refine wp_of_listG ?_
      refine wpList_append_lit (enc := encU) (fun _ => rfl) rfl _ _ 22 rfl 34 j0 (.int .u64 0) 8 Try.underlying22 hj hj0 hj1 hj2 rfl w6.heap.size _ rfl hq37 hxc.size _ l rfl (HS.out.ext (HX06.out.trans hxc)) (by unfold maxLen; omega) (by omega) ?_
      intro v39 wn ho39 hst _
      skip
      replace hq37 := hq37.ext hst
      refine hK _ _ (hxc.trans hst) ?_
      clear hK K
      replace hxc := hxc.trans hst
      clear hst
      generalize wn = wc at *
      (try simp only [Act.put, List.setIfInBounds_toArray, List.set_cons_zero, List.set_cons_succ])
      refine extT_doB rfl (by rfl) (fun K hK => ?_)
      go_simp
      have hst : Ext wc (wc.alloc (.cells #[.int .u64 1] 34)) := Ext.alloc _ _
      have hb40 : BoxAt (wc.alloc (.cells #[.int .u64 1] 34)) wc.heap.size #[encU 1#64] 34 := BoxAt.new _ _ _
      replace hq37 := hq37.ext hst
      replace ho39 := ho39.ext hst
      refine hK _ _ (hxc.trans hst) ?_
      clear hK K
      replace hxc := hxc.trans hst
      clear hst
      generalize wc.alloc (.cells #[.int .u64 1] 34) = wn at *
      generalize wc.heap.size = q40 at *
      generalize wn = wc at *
      (try simp only [Act.put, List.setIfInBounds_toArray, List.set_cons_zero, List.set_cons_succ])
      refine extT_doB rfl (by rfl) (fun K hK => ?_)
      refine wp_of_listG ?_
      refine wpList_append_one rfl _ _ 22 rfl w6.heap.size 34 j0 (.int .u64 0) 8 Try.underlying22 hj hj0 hj1 hj2 rfl _ _ _ rfl ho39 _ (encU 1#64) rfl rfl (hb40.cell 0 rfl) (by unfold maxLen; omega) (by omega) hxc.size ?_
      intro v41 wn ho41 hg41 _
      have hxn : Ext w6 wn := Below.grown hxc hg41 hxc.size (fun q hq => (ho39.lt q hq).1)
      replace ho41 : OwnG encU 34 wn w6.heap.size v41 (l ++ [1#64]) := OwnG.snoc (enc := encU) (x := 1#64) ho41
      refine hK _ _ hxn ?_
      clear hK K hg41 hb40 hq37 ho39
      replace hxc := hxn
      clear hxn
      generalize wn = wc at *
      (try simp only [Act.put, List.setIfInBounds_toArray, List.set_cons_zero, List.set_cons_succ])
      refine extT_doB rfl (by rfl) (fun K hK => ?_)
      have HO41 := Lib.hid ho41
      clear ho41
      go_simp
      go_at_call 13
      refine (build_any v41 (l ++ [1#64]) wc (by rw [List.length_append, List.length_singleton]; omega) HO41.out.slice).mono ?_
      rintro e wn ⟨R, rfl, _, hst⟩
      replace hst : Ext wc wn := hst
      refine hK _ _ (hxc.trans hst) ?_
      clear hK K
      replace hxc := hxc.trans hst
      clear hst
      generalize wn = wc at *
      (try simp only [Act.put, List.setIfInBounds_toArray, List.set_cons_zero, List.set_cons_succ])
      refine extT_doB rfl (by rfl) (fun K hK => ?_)
      go_simp
      go_at_call 24
      refine (HC3.out _ R wc (by simp)).mono ?_
      rintro e wn ⟨rfl, hst⟩
      replace hst : Ext wc wn := hst
      refine hK _ _ (hxc.trans hst) ?_
      clear hK K
      replace hxc := hxc.trans hst
      clear hst
      generalize wn = wc at *
      (try simp only [Act.put, List.setIfInBounds_toArray, List.set_cons_zero, List.set_cons_succ])
      iterate 3 (first
       | (refine extT_move rfl rfl (by rfl) (by rfl) ?_; simp only [Act.put, List.setIfInBounds_toArray, List.set_cons_zero, List.set_cons_succ])
       | (refine extT_assign rfl rfl (by rfl) (by rfl) ?_; simp only [Act.put, List.setIfInBounds_toArray, List.set_cons_zero, List.set_cons_succ])
       | (refine extT_pick_t rfl rfl (by rfl) (by rfl) (by rfl) ?_; simp only [Act.put, List.setIfInBounds_toArray, List.set_cons_zero, List.set_cons_succ])
       | (refine extT_pick_f rfl rfl (by rfl) (by rfl) (by rfl) ?_; simp only [Act.put, List.setIfInBounds_toArray, List.set_cons_zero, List.set_cons_succ])
       | (apply extT_take rfl (by rfl)
          · intro w' hS
            have hSc := hS.cells
            (try simp only [World.size_drew, World.cell?_drew] at hSc)
            go_simp
            (try simp (disch := omega) only [i64_id, u64_id, ↓IntWalk.iteOmega, Int.tdiv_eq_ediv_of_nonneg, Int.tmod_eq_emod_of_nonneg])
            try rfl
          simp only [Act.put, List.setIfInBounds_toArray, List.set_cons_zero, List.set_cons_succ])
       | (refine extT_pass rfl (by rfl) ?_; simp only [Act.put, List.setIfInBounds_toArray, List.set_cons_zero, List.set_cons_succ]))
      refine extT_nil ?_
      (go_wp2_with fail; go_ret; exact ⟨rfl, HX06.out.trans hxc⟩)
      skip
      go_simp
      have hst : Ext wc (wc.alloc (.cells #[.int .u64 1] 34)) := Ext.alloc _ _
      have hb40 : BoxAt (wc.alloc (.cells #[.int .u64 1] 34)) wc.heap.size #[encU 1#64] 34 := BoxAt.new _ _ _
      replace hq37 := hq37.ext hst
      skip
      refine hK _ _ (hxc.trans hst) ?_
      clear hK K
      replace hxc := hxc.trans hst
      clear hst
      generalize wc.alloc (.cells #[.int .u64 1] 34) = wn at *
      generalize wc.heap.size = q40 at *
      generalize wn = wc at *
      (try simp only [Act.put, List.setIfInBounds_toArray, List.set_cons_zero, List.set_cons_succ])
      refine extT_doB rfl (by rfl) (fun K hK => ?_)
      refine wp_of_listG ?_
      refine wpList_append_lit (enc := encU) (fun _ => rfl) rfl _ _ 22 rfl 34 j0 (.int .u64 0) 8 Try.underlying22 hj hj0 hj1 hj2 rfl w6.heap.size _ rfl hq37 hxc.size _ l rfl (HS.out.ext (HX06.out.trans hxc)) (by unfold maxLen; omega) (by omega) ?_
      intro v39 wn ho39 hst _
      replace hb40 := hb40.ext hst
      replace hq37 := hq37.ext hst
      refine hK _ _ (hxc.trans hst) ?_
      clear hK K
      replace hxc := hxc.trans hst
      clear hst
      generalize wn = wc at *
      (try simp only [Act.put, List.setIfInBounds_toArray, List.set_cons_zero, List.set_cons_succ])
      refine extT_doB rfl (by rfl) (fun K hK => ?_)
      refine wp_of_listG ?_
      refine wpList_append_one rfl _ _ 22 rfl w6.heap.size 34 j0 (.int .u64 0) 8 Try.underlying22 hj hj0 hj1 hj2 rfl _ _ _ rfl ho39 _ (encU 1#64) rfl rfl (hb40.cell 0 rfl) (by unfold maxLen; omega) (by omega) hxc.size ?_
      intro v41 wn ho41 hg41 _
      have hxn : Ext w6 wn := Below.grown hxc hg41 hxc.size (fun q hq => (ho39.lt q hq).1)
      replace ho41 : OwnG encU 34 wn w6.heap.size v41 (l ++ [1#64]) := OwnG.snoc (enc := encU) (x := 1#64) ho41
      refine hK _ _ hxn ?_
      clear hK K hg41 hb40 hq37 ho39
      replace hxc := hxn
      clear hxn
      generalize wn = wc at *
      (try simp only [Act.put, List.setIfInBounds_toArray, List.set_cons_zero, List.set_cons_succ])
      refine extT_doB rfl (by rfl) (fun K hK => ?_)
      have HO41 := Lib.hid ho41
      clear ho41
      go_simp
      go_at_call 13
      refine (build_any v41 (l ++ [1#64]) wc (by rw [List.length_append, List.length_singleton]; omega) HO41.out.slice).mono ?_
      rintro e wn ⟨R, rfl, _, hst⟩
      replace hst : Ext wc wn := hst
      refine hK _ _ (hxc.trans hst) ?_
      clear hK K
      replace hxc := hxc.trans hst
      clear hst
      generalize wn = wc at *
      (try simp only [Act.put, List.setIfInBounds_toArray, List.set_cons_zero, List.set_cons_succ])
      refine extT_doB rfl (by rfl) (fun K hK => ?_)
      go_simp
      go_at_call 24
      refine (HC3.out _ R wc (by simp)).mono ?_
      rintro e wn ⟨rfl, hst⟩
      replace hst : Ext wc wn := hst
      refine hK _ _ (hxc.trans hst) ?_
      clear hK K
      replace hxc := hxc.trans hst
      clear hst
      generalize wn = wc at *
      (try simp only [Act.put, List.setIfInBounds_toArray, List.set_cons_zero, List.set_cons_succ])
      iterate 3 (first
       | (refine extT_move rfl rfl (by rfl) (by rfl) ?_; simp only [Act.put, List.setIfInBounds_toArray, List.set_cons_zero, List.set_cons_succ])
       | (refine extT_assign rfl rfl (by rfl) (by rfl) ?_; simp only [Act.put, List.setIfInBounds_toArray, List.set_cons_zero, List.set_cons_succ])
       | (refine extT_pick_t rfl rfl (by rfl) (by rfl) (by rfl) ?_; simp only [Act.put, List.setIfInBounds_toArray, List.set_cons_zero, List.set_cons_succ])
       | (refine extT_pick_f rfl rfl (by rfl) (by rfl) (by rfl) ?_; simp only [Act.put, List.setIfInBounds_toArray, List.set_cons_zero, List.set_cons_succ])
       | (apply extT_take rfl (by rfl)
          · intro w' hS
            have hSc := hS.cells
            (try simp only [World.size_drew, World.cell?_drew] at hSc)
            go_simp
            (try simp (disch := omega) only [i64_id, u64_id, ↓IntWalk.iteOmega, Int.tdiv_eq_ediv_of_nonneg, Int.tmod_eq_emod_of_nonneg])
            try rfl
          simp only [Act.put, List.setIfInBounds_toArray, List.set_cons_zero, List.set_cons_succ])
       | (refine extT_pass rfl (by rfl) ?_; simp only [Act.put, List.setIfInBounds_toArray, List.set_cons_zero, List.set_cons_succ]))
      refine extT_nil ?_
      (go_wp2_with fail; go_ret; exact ⟨rfl, HX06.out.trans hxc⟩)
      skip
      go_simp
      have hst : Ext wc (wc.alloc (.cells #[.int .u64 1] 34)) := Ext.alloc _ _
      have hb40 : BoxAt (wc.alloc (.cells #[.int .u64 1] 34)) wc.heap.size #[encU 1#64] 34 := BoxAt.new _ _ _
      skip
      skip
      refine hK _ _ (hxc.trans hst) ?_
      clear hK K
      replace hxc := hxc.trans hst
      clear hst
      generalize wc.alloc (.cells #[.int .u64 1] 34) = wn at *
      generalize wc.heap.size = q40 at *
      generalize wn = wc at *
      (try simp only [Act.put, List.setIfInBounds_toArray, List.set_cons_zero, List.set_cons_succ])
      refine extT_doB rfl (by rfl) (fun K hK => ?_)
      go_simp
      have hst : Ext wc (wc.alloc (.cells #[] 34)) := Ext.alloc _ _
      have hq37 : OwnG encU 34 (wc.alloc (.cells #[] 34)) w6.heap.size (.slice (some ⟨wc.heap.size, 0, none⟩) 0 0) [] := OwnG.lit (enc := encU) wc [] 34 w6.heap.size hxc.size (Nat.zero_le _) #[] rfl
      replace hb40 := hb40.ext hst
      refine hK _ _ (hxc.trans hst) ?_
      clear hK K
      replace hxc := hxc.trans hst
      clear hst
      generalize wc.alloc (.cells #[] 34) = wn at *
      generalize wc.heap.size = q37 at *
      generalize wn = wc at *
      (try simp only [Act.put, List.setIfInBounds_toArray, List.set_cons_zero, List.set_cons_succ])
      refine extT_doB rfl (by rfl) (fun K hK => ?_)
      refine wp_of_listG ?_
      refine wpList_append_lit (enc := encU) (fun _ => rfl) rfl _ _ 22 rfl 34 j0 (.int .u64 0) 8 Try.underlying22 hj hj0 hj1 hj2 rfl w6.heap.size _ rfl hq37 hxc.size _ l rfl (HS.out.ext (HX06.out.trans hxc)) (by unfold maxLen; omega) (by omega) ?_
      intro v39 wn ho39 hst _
      replace hb40 := hb40.ext hst
      replace hq37 := hq37.ext hst
      refine hK _ _ (hxc.trans hst) ?_
      clear hK K
      replace hxc := hxc.trans hst
      clear hst
      generalize wn = wc at *
      (try simp only [Act.put, List.setIfInBounds_toArray, List.set_cons_zero, List.set_cons_succ])
      refine extT_doB rfl (by rfl) (fun K hK => ?_)
      refine wp_of_listG ?_
      refine wpList_append_one rfl _ _ 22 rfl w6.heap.size 34 j0 (.int .u64 0) 8 Try.underlying22 hj hj0 hj1 hj2 rfl _ _ _ rfl ho39 _ (encU 1#64) rfl rfl (hb40.cell 0 rfl) (by unfold maxLen; omega) (by omega) hxc.size ?_
      intro v41 wn ho41 hg41 _
      have hxn : Ext w6 wn := Below.grown hxc hg41 hxc.size (fun q hq => (ho39.lt q hq).1)
      replace ho41 : OwnG encU 34 wn w6.heap.size v41 (l ++ [1#64]) := OwnG.snoc (enc := encU) (x := 1#64) ho41
      refine hK _ _ hxn ?_
      clear hK K hg41 hb40 hq37 ho39
      replace hxc := hxn
      clear hxn
      generalize wn = wc at *
      (try simp only [Act.put, List.setIfInBounds_toArray, List.set_cons_zero, List.set_cons_succ])
      refine extT_doB rfl (by rfl) (fun K hK => ?_)
      have HO41 := Lib.hid ho41
      clear ho41
      go_simp
      go_at_call 13
      refine (build_any v41 (l ++ [1#64]) wc (by rw [List.length_append, List.length_singleton]; omega) HO41.out.slice).mono ?_
      rintro e wn ⟨R, rfl, _, hst⟩
      replace hst : Ext wc wn := hst
      refine hK _ _ (hxc.trans hst) ?_
      clear hK K
      replace hxc := hxc.trans hst
      clear hst
      generalize wn = wc at *
      (try simp only [Act.put, List.setIfInBounds_toArray, List.set_cons_zero, List.set_cons_succ])
      refine extT_doB rfl (by rfl) (fun K hK => ?_)
      go_simp
      go_at_call 24
      refine (HC3.out _ R wc (by simp)).mono ?_
      rintro e wn ⟨rfl, hst⟩
      replace hst : Ext wc wn := hst
      refine hK _ _ (hxc.trans hst) ?_
      clear hK K
      replace hxc := hxc.trans hst
      clear hst
      generalize wn = wc at *
      (try simp only [Act.put, List.setIfInBounds_toArray, List.set_cons_zero, List.set_cons_succ])
      iterate 3 (first
       | (refine extT_move rfl rfl (by rfl) (by rfl) ?_; simp only [Act.put, List.setIfInBounds_toArray, List.set_cons_zero, List.set_cons_succ])
       | (refine extT_assign rfl rfl (by rfl) (by rfl) ?_; simp only [Act.put, List.setIfInBounds_toArray, List.set_cons_zero, List.set_cons_succ])
       | (refine extT_pick_t rfl rfl (by rfl) (by rfl) (by rfl) ?_; simp only [Act.put, List.setIfInBounds_toArray, List.set_cons_zero, List.set_cons_succ])
       | (refine extT_pick_f rfl rfl (by rfl) (by rfl) (by rfl) ?_; simp only [Act.put, List.setIfInBounds_toArray, List.set_cons_zero, List.set_cons_succ])
       | (apply extT_take rfl (by rfl)
          · intro w' hS
            have hSc := hS.cells
            (try simp only [World.size_drew, World.cell?_drew] at hSc)
            go_simp
            (try simp (disch := omega) only [i64_id, u64_id, ↓IntWalk.iteOmega, Int.tdiv_eq_ediv_of_nonneg, Int.tmod_eq_emod_of_nonneg])
            try rfl
          simp only [Act.put, List.setIfInBounds_toArray, List.set_cons_zero, List.set_cons_succ])
       | (refine extT_pass rfl (by rfl) ?_; simp only [Act.put, List.setIfInBounds_toArray, List.set_cons_zero, List.set_cons_succ]))
      refine extT_nil ?_
      (go_wp2_with fail; go_ret; exact ⟨rfl, HX06.out.trans hxc⟩)
      skip
  · have hcond : (¬ l.length ≤ 100 ∧ decide ((100 : Int) < (l.length : Int)) = true) ∨ (l.length ≤ 100 ∧ decide ((100 : Int) < (l.length : Int)) = false ∧ decide (i < 0) = true) ∨ (l.length ≤ 100 ∧ decide ((100 : Int) < (l.length : Int)) = false ∧ decide (i < 0) = false ∧ decide ((l.length : Int) ≤ i) = true) := by
      simp only [decide_eq_true_eq, decide_eq_false_iff_not]
      omega
    clear hc
    rcases hcond with ⟨_, hd⟩ | ⟨_, hd, hd2⟩ | ⟨_, hd, hd2, hd3⟩
    all_goals
      go_wp2_with fail
      go_at_call 11
      refine (awake_any _).mono ?_
      rintro e w3 ⟨rfl, hb3⟩
      have HX3 : Hid (Ext w1 w3) := hb3
      clear hb3
      go_wp2_with fail
      go_ret
      exact ⟨rfl, HX1.out.trans HX3.out⟩
end Go.Proofs.Ytdhlikjdcnfkpaa
