/-
  Part 36 of the proof.
-/
import Derived.Test.YtjabgpejmnpamaaGreatDoorY34
set_option linter.unusedVariables false
namespace Go.Proofs.YtjabgpejmnpamaaGreatDoor
open Go.RowKit Go.Shelf
set_option maxRecDepth 100000
set_option maxHeartbeats 4000000 in
theorem vapp1_any (B R D P q ce g c gR gA gB bb : Nat) (t : Int) (n : Cn) (v : Value) (w : World) (h : BoxAt w R (dvC D q ce g c t) 144) (hp : Ph B w D P n []) (hBw : B ≤ w.heap.size) (hR : BoxAt w gR #[.pointer (some ⟨R, 0, none⟩)] 71) (hA : BoxAt w gA #[.int .i64 60] 3) (hV : BoxAt w gB #[v] 47) (hv : OwnB w bb v xL) :
    Calls Tryz.prog 180 #[.pointer (some ⟨gR, 0, none⟩), .pointer (some ⟨gA, 0, none⟩), .pointer (some ⟨gB, 0, none⟩)] w fun e w' => e = .returned (.int .i64 0) ∧ Pw B w' D P n xL ∧ Chg B TTd w w' := by
  obtain ⟨va, vc, rfl⟩ := own_shape hv
  rw [xL_len] at hV hv
  have HP := Lib.hid hp
  have HV := Lib.hid hv
  have a0 := hR.cell 0 (v := .pointer (some ⟨R, 0, none⟩)) rfl
  have a1 := hA.cell 0 (v := .int .i64 60) rfl
  have a2 := hV.cell 0 (v := .slice va 37 vc) rfl
  have a3 := h.cell 0 (v := .pointer (some ⟨D, 0, none⟩)) rfl
  have a4 := h.cell 1 (v := .int .u64 0) rfl
  have l0 := hR.lt
  have l1 := hA.lt
  have l2 := hV.lt
  have l3 := h.lt
  clear h hp hR hA hV hv
  go_enter Tryz.func180, Tryz.ntmps180
  go_wp2_with fail
  refine wp_region_ext [(0, true), (1, true), (2, true), (3, true), (4, true), (5, true), (6, true), (7, true), (8, true), (9, true), (10, false), (11, true)] (by kernel_rfl) (by kernel_rfl) ?_
  iterate 10 ((first
   | refine ext_move rfl rfl (by rfl) (by rfl) ?_
   | refine ext_assign rfl rfl (by rfl) (by rfl) ?_
   | refine ext_pick_t rfl rfl (by rfl) (by rfl) (by rfl) ?_
   | refine ext_pick_f rfl rfl (by rfl) (by rfl) (by rfl) ?_
   | (apply ext_take rfl (by rfl)
      · intro w' hS
        have hSc := hS.cells
        (try simp only [World.size_drew, World.cell?_drew] at hSc)
        go_simp
        (try simp (disch := omega) only [i64_id, u64_id, ↓IntWalk.iteOmega, Int.tdiv_eq_ediv_of_nonneg, Int.tmod_eq_emod_of_nonneg])
        try rfl)
   | refine ext_pass rfl (by rfl) ?_); simp only [Act.put, setZa, setZ0, setZ1])
  (refine ext_store rfl (by rfl) (by kernel_rfl) (fun K hK => ?_)
   go_simp
   go_at_call 181
   refine (dwrite_any B D P bb n (.slice va 37 vc) xL (by rw [xL_len]; decide) _ (HP.out.ext (by first | exact Ext.refl _ | exact Ext.drew _)) (by first | exact hBw | exact Nat.le_trans hBw (Ext.drew _).size) (OwnB.ext0 HV.out (by first | exact Ext.refl _ | exact Ext.drew _))).mono ?_
   rintro e W1 ⟨rfl, h1, h2⟩
   have H1 := Lib.hid h1
   have H2 := Lib.hid h2
   refine hK _ _ ?_
   clear hK K h1 h2
   (try simp only [Act.put, setZa, setZ0, setZ1]))
  iterate 1 ((first
   | refine ext_move rfl rfl (by rfl) (by rfl) ?_
   | refine ext_assign rfl rfl (by rfl) (by rfl) ?_
   | refine ext_pick_t rfl rfl (by rfl) (by rfl) (by rfl) ?_
   | refine ext_pick_f rfl rfl (by rfl) (by rfl) (by rfl) ?_
   | (apply ext_take rfl (by rfl)
      · intro w' hS
        have hSc := hS.cells
        (try simp only [World.size_drew, World.cell?_drew] at hSc)
        go_simp
        (try simp (disch := omega) only [i64_id, u64_id, ↓IntWalk.iteOmega, Int.tdiv_eq_ediv_of_nonneg, Int.tmod_eq_emod_of_nonneg])
        try rfl)
   | refine ext_pass rfl (by rfl) ?_); simp only [Act.put, setZa, setZ0, setZ1])
  refine ext_nil ?_
  go_wp2_with fail
  go_ret
  exact ⟨rfl, H1.out, (Chg.ext (Ext.drew w) hBw).trans H2.out⟩
abbrev apW (w : World) (R : Nat) : World := (w.alloc (.cells #[.pointer (some ⟨R, 0, none⟩)] 71)).alloc (.cells #[.int .i64 1, .int .i64 1, .int .u64 5, .int .u8 9, .int .u8 0, .int .u8 0, .int .u8 0, .int .u8 0, .int .u8 0, .int .u8 0, .int .u8 0] 151)
theorem apW_ext (w : World) (R : Nat) : Ext w (apW w R) := (Ext.alloc _ _).trans (Ext.alloc _ _)
theorem apW_0 (w : World) (R : Nat) : BoxAt (apW w R) w.heap.size #[.pointer (some ⟨R, 0, none⟩)] 71 := (BoxAt.new w _ _).ext (Ext.alloc _ _)
theorem apW_1 (w : World) (R : Nat) : BoxAt (apW w R) (w.heap.size + 1) #[.int .i64 1, .int .i64 1, .int .u64 5, .int .u8 9, .int .u8 0, .int .u8 0, .int .u8 0, .int .u8 0, .int .u8 0, .int .u8 0, .int .u8 0] 151 := by
  have h := BoxAt.new (w.alloc (.cells #[.pointer (some ⟨R, 0, none⟩)] 71)) #[.int .i64 1, .int .i64 1, .int .u64 5, .int .u8 9, .int .u8 0, .int .u8 0, .int .u8 0, .int .u8 0, .int .u8 0, .int .u8 0, .int .u8 0] 151
  rwa [World.size_alloc] at h
set_option maxHeartbeats 8000000 in
theorem vapp_any (B R D P q ce g c : Nat) (n : Cn) (w : World) (h : BoxAt w R (dvC D q ce g c 0) 144) (he : Ent w q) (hb : Bnd w g c) (hp : Ph B w D P n []) (hBw : B ≤ w.heap.size) (hBR : B ≤ R) (hBq : B ≤ q) :
    Calls Tryz.prog 119 #[.pointer (some ⟨R, 0, none⟩), xV, .int .i64 (-1)] w fun e w' => e = .returned (.int .i64 0) ∧
      (∃ g' c', BoxAt w' R (dvC D q ce g' c' 1) 144) ∧ (∃ EA, BoxAt w' q EA 154 ∧ EA[3]? = some (.int .i64 1) ∧ EA[4]? = some (.int .u64 5) ∧ EA[5]? = some (.int .i64 60)) ∧ Pw B w' D P n xL ∧ Chg B (144 :: 154 :: TTd) w w' := by
  have HX := Lib.hid (apW_ext w R)
  have H0 := Lib.hid (apW_0 w R)
  have H1 := Lib.hid (apW_1 w R)
  have HR := Lib.hid (h.ext HX.out)
  have HE := Lib.hid (he.ext HX.out)
  have HB := Lib.hid (hb.ext HX.out)
  have HP := Lib.hid (hp.ext HX.out)
  have a0 := H0.out.cell 0 (v := .pointer (some ⟨R, 0, none⟩)) rfl
  have l0 := H0.out.lt
  clear h he hb hp
  go_enter Tryz.func119, Tryz.ntmps119
  go_wp2_with (go_at_call 178; go_loud (refine (vopen_any B R D P n.C q ce g c 0 _ HR.out HP.out.dsk HB.out).mono ?_); rintro e W1 ⟨rfl, hx1⟩; have HX1 := Lib.hid hx1; have b0 := (H0.out.ext hx1).cell 0 (v := .pointer (some ⟨R, 0, none⟩)) rfl; have m0 := (H0.out.ext hx1).lt; have hr1 := HR.out.ext hx1; have b4 := hr1.cell 4 (v := .int .u64 0) rfl; have m4 := hr1.lt; have h1 := H1.out.ext hx1; have x0 := h1.cell 0 (v := .int .i64 1) rfl; have x1 := h1.cell 1 (v := .int .i64 1) rfl; have x2 := h1.cell 2 (v := .int .u64 5) rfl; have x3 := h1.cell 3 (v := .int .u8 9) rfl; have x4 := h1.cell 4 (v := .int .u8 0) rfl; have x5 := h1.cell 5 (v := .int .u8 0) rfl; have x6 := h1.cell 6 (v := .int .u8 0) rfl; have x7 := h1.cell 7 (v := .int .u8 0) rfl; have x8 := h1.cell 8 (v := .int .u8 0) rfl; have x9 := h1.cell 9 (v := .int .u8 0) rfl; have x10 := h1.cell 10 (v := .int .u8 0) rfl; have mx := h1.lt; clear hx1 hr1 h1 a0 l0)
  refine wp_region_extTB (.take 0 (.take 1 (.take 2 (.take 3 (.take 4 (.take 5 (.two 6 10 (.take 7 (.take 8 (.take 9 (.one 10 (.one 11 (.take 12 .done)))))) (.one 6 (.take 7 (.take 8 (.take 9 (.one 11 (.take 12 .done))))))))))))) (by kernel_rfl) (by kernel_rfl) (fun wc hxc => ?_)
  have hq := hxc
  iterate 6 ((first
   | refine extT_move rfl rfl (by rfl) (by rfl) ?_
   | refine extT_assign rfl rfl (by rfl) (by rfl) ?_
   | refine extT_pick_t rfl rfl (by rfl) (by rfl) (by rfl) ?_
   | refine extT_pick_f rfl rfl (by rfl) (by rfl) (by rfl) ?_
   | (apply extT_take rfl (by rfl)
      · intro w' hS
        have hSc := hS.cells
        (try simp only [World.size_drew, World.cell?_drew] at hSc)
        go_simp
        (try simp (disch := omega) only [u64_id])
        try rfl)
   | refine extT_pass rfl (by rfl) ?_); simp only [Act.put, setZa, setZ0, setZ1])
  refine extT_twoB rfl rfl (by rfl) (by rfl) (fun K hK => ?_) (fun K hK => ?_)
  go_simp
  go_at_call 179
  refine (xenc_any _).mono ?_
  rintro e Wa ⟨v', rfl, hv', hxa⟩
  obtain ⟨va, vc, rfl⟩ := own_shape hv'
  rw [xL_len] at hv' ⊢
  replace hq := hq.trans hxa
  skip
  have HV' := Lib.hid hv'
  refine hK _ _ hq ?_
  clear hK K hxa hv'
  (try simp only [Act.put, setZa, setZ0, setZ1])
  iterate 3 ((first
   | refine extT_move rfl rfl (by rfl) (by rfl) ?_
   | refine extT_assign rfl rfl (by rfl) (by rfl) ?_
   | refine extT_pick_t rfl rfl (by rfl) (by rfl) (by rfl) ?_
   | refine extT_pick_f rfl rfl (by rfl) (by rfl) (by rfl) ?_
   | (apply extT_take rfl (by rfl)
      · intro w' hS
        have hSc := hS.cells
        (try simp only [World.size_drew, World.cell?_drew] at hSc)
        go_simp
        (try simp (disch := omega) only [i64_id, u64_id, ↓IntWalk.iteOmega, Int.tdiv_eq_ediv_of_nonneg, Int.tmod_eq_emod_of_nonneg])
        try rfl)
   | refine extT_pass rfl (by rfl) ?_); simp only [Act.put, setZa, setZ0, setZ1])
  refine extT_doB rfl (by rfl) (fun K hK => ?_)
  go_simp
  (try replace HV' := Lib.hid (OwnB.ext0 HV'.out (Ext.alloc _ (.cells #[.slice none 0 0] 47))))
  have hal := BoxAt.new Wa #[.slice none 0 0] 47
  have hle := hq.size
  replace hq := hq.trans (Ext.alloc _ (.cells #[.slice none 0 0] 47))
  refine hK _ _ hq ?_
  clear hK K
  (try simp only [Act.put, setZa, setZ0, setZ1])
  refine extT_doB rfl (by rfl) (fun K hK => ?_)
  refine wp_of_list rfl ?_
  refine wpList_store_cell 47 _ _ rfl (by rfl) (i := 0) rfl rfl hal (by simp) (by kernel_rfl) rfl ?_
  intro Wb hS
  have HS := Lib.hid hS
  have HQ := Lib.hid (show Ext W1 Wb from hS.bel hq hle)
  have HVb := Lib.hid (ownsRow_chg ((Chg.refl 0 [47] _).stored hal hS (by simp) (Nat.zero_le _)) HV'.out (by decide))
  refine hK _ _ HQ.out ?_
  clear hK K hS
  (try simp only [Act.put])
  iterate 1 ((first
   | refine extT_move rfl rfl (by rfl) (by rfl) ?_
   | refine extT_assign rfl rfl (by rfl) (by rfl) ?_
   | refine extT_pick_t rfl rfl (by rfl) (by rfl) (by rfl) ?_
   | refine extT_pick_f rfl rfl (by rfl) (by rfl) (by rfl) ?_
   | (apply extT_take rfl (by rfl)
      · intro w' hS
        have hSc := hS.cells
        (try simp only [World.size_drew, World.cell?_drew] at hSc)
        go_simp
        (try simp (disch := omega) only [i64_id, u64_id, ↓IntWalk.iteOmega, Int.tdiv_eq_ediv_of_nonneg, Int.tmod_eq_emod_of_nonneg])
        try rfl)
   | refine extT_pass rfl (by rfl) ?_); simp only [Act.put, setZa, setZ0, setZ1])
  refine extT_nil ?_
  skip
  rotate_left
  go_simp
  (try replace HV' := Lib.hid (OwnB.ext0 HV'.out (Ext.alloc _ (.cells #[.slice none 0 0] 47))))
  have hal := BoxAt.new wc #[.slice none 0 0] 47
  have hle := hq.size
  replace hq := hq.trans (Ext.alloc _ (.cells #[.slice none 0 0] 47))
  refine hK _ _ hq ?_
  clear hK K
  (try simp only [Act.put, setZa, setZ0, setZ1])
  refine extT_doB rfl (by rfl) (fun K hK => ?_)
  go_simp
  go_at_call 179
  refine (xenc_any _).mono ?_
  rintro e Wa ⟨v', rfl, hv', hxa⟩
  obtain ⟨va, vc, rfl⟩ := own_shape hv'
  rw [xL_len] at hv' ⊢
  replace hq := hq.trans hxa
  replace hal := hal.ext hxa
  have HV' := Lib.hid hv'
  refine hK _ _ hq ?_
  clear hK K hxa hv'
  (try simp only [Act.put, setZa, setZ0, setZ1])
  iterate 3 ((first
   | refine extT_move rfl rfl (by rfl) (by rfl) ?_
   | refine extT_assign rfl rfl (by rfl) (by rfl) ?_
   | refine extT_pick_t rfl rfl (by rfl) (by rfl) (by rfl) ?_
   | refine extT_pick_f rfl rfl (by rfl) (by rfl) (by rfl) ?_
   | (apply extT_take rfl (by rfl)
      · intro w' hS
        have hSc := hS.cells
        (try simp only [World.size_drew, World.cell?_drew] at hSc)
        go_simp
        (try simp (disch := omega) only [i64_id, u64_id, ↓IntWalk.iteOmega, Int.tdiv_eq_ediv_of_nonneg, Int.tmod_eq_emod_of_nonneg])
        try rfl)
   | refine extT_pass rfl (by rfl) ?_); simp only [Act.put, setZa, setZ0, setZ1])
  refine extT_doB rfl (by rfl) (fun K hK => ?_)
  refine wp_of_list rfl ?_
  refine wpList_store_cell 47 _ _ rfl (by rfl) (i := 0) rfl rfl hal (by simp) (by kernel_rfl) rfl ?_
  intro Wb hS
  have HS := Lib.hid hS
  have HQ := Lib.hid (show Ext W1 Wb from hS.bel hq hle)
  have HVb := Lib.hid (ownsRow_chg ((Chg.refl 0 [47] _).stored hal hS (by simp) (Nat.zero_le _)) HV'.out (by decide))
  refine hK _ _ HQ.out ?_
  clear hK K hS
  (try simp only [Act.put])
  iterate 1 ((first
   | refine extT_move rfl rfl (by rfl) (by rfl) ?_
   | refine extT_assign rfl rfl (by rfl) (by rfl) ?_
   | refine extT_pick_t rfl rfl (by rfl) (by rfl) (by rfl) ?_
   | refine extT_pick_f rfl rfl (by rfl) (by rfl) (by rfl) ?_
   | (apply extT_take rfl (by rfl)
      · intro w' hS
        have hSc := hS.cells
        (try simp only [World.size_drew, World.cell?_drew] at hSc)
        go_simp
        (try simp (disch := omega) only [i64_id, u64_id, ↓IntWalk.iteOmega, Int.tdiv_eq_ediv_of_nonneg, Int.tmod_eq_emod_of_nonneg])
        try rfl)
   | refine extT_pass rfl (by rfl) ?_); simp only [Act.put, setZa, setZ0, setZ1])
  refine extT_nil ?_
  skip
  rotate_left
  all_goals
    have HXb := Lib.hid (HX.out.trans (HX1.out.trans HQ.out))
    have HRb := Lib.hid (HR.out.ext (HX1.out.trans HQ.out))
    have HBb := Lib.hid (HB.out.ext (HX1.out.trans HQ.out))
    have HEb := Lib.hid (HE.out.ext (HX1.out.trans HQ.out))
    have HPb := Lib.hid (HP.out.ext (HX1.out.trans HQ.out))
    have H0b := Lib.hid (H0.out.ext (HX1.out.trans HQ.out))
    have H1b := Lib.hid (H1.out.ext (HX1.out.trans HQ.out))
    have HGb := Lib.hid HS.out.box
    clear b0 m0 b4 m4 x0 x1 x2 x3 x4 x5 x6 x7 x8 x9 x10 mx hal hle hq hxc
    have b0 := H0b.out.cell 0 (v := .pointer (some ⟨R, 0, none⟩)) rfl
    have m0 := H0b.out.lt
    have r0 := HRb.out.cell 0 (v := .pointer (some ⟨D, 0, none⟩)) rfl
    have r3 := HRb.out.cell 3 (v := .slice (some ⟨g, 0, none⟩) 5 c) rfl
    have mr := HRb.out.lt
    have u0 : Wb.cell? ⟨g, 0, none⟩ = some (.int .i64 0) := by
      have := (HBb.out.at 0 (by decide)).1
      simpa using this
    have mg := HBb.out.lt
    go_wp2_with fail
    refine wp_region_extTB (.take 0 (.take 1 (.take 2 (.take 3 (.take 6 (.take 7 (.take 11 (.take 12 (.take 13 (.take 14 (.take 15 (.take 16 (.take 17 (.take 18 (.two 4 20 (.take 5 (.two 8 20 (.take 9 (.take 10 (.take 19 (.one 20 (.one 21 .done))))) (.one 8 (.take 9 (.take 10 (.take 19 (.one 21 .done))))))) (.one 4 (.take 5 (.one 8 (.take 9 (.take 10 (.take 19 (.one 21 .done)))))))))))))))))))))) (by kernel_rfl) (by kernel_rfl) (fun wc hxc => ?_)
    have hq := hxc
    iterate 14 ((first
     | refine extT_move rfl rfl (by rfl) (by rfl) ?_
     | refine extT_assign rfl rfl (by rfl) (by rfl) ?_
     | refine extT_pick_t rfl rfl (by rfl) (by rfl) (by rfl) ?_
     | refine extT_pick_f rfl rfl (by rfl) (by rfl) (by rfl) ?_
     | (apply extT_take rfl (by rfl)
        · intro w' hS
          have hSc := hS.cells
          (try simp only [World.size_drew, World.cell?_drew] at hSc)
          go_simp
          (try simp (disch := omega) only [i64_id, u64_id, ↓IntWalk.iteOmega, Int.tdiv_eq_ediv_of_nonneg, Int.tmod_eq_emod_of_nonneg])
          try rfl)
     | refine extT_pass rfl (by rfl) ?_); simp only [Act.put, setZa, setZ0, setZ1])
    refine extT_twoB rfl rfl (by rfl) (by rfl) (fun K hK => ?_) (fun K hK => ?_)
    go_simp
    go_at_call 109
    refine (dgeo_any B D P n.C _ (HPb.out.dsk.ext hq)).mono ?_
    rintro e Wd ⟨rfl, hxd⟩
    replace hq := hq.trans hxd
    skip
    refine hK _ _ hq ?_
    clear hK K hxd
    (try simp only [Act.put, setZa, setZ0, setZ1])
    iterate 1 ((first
     | refine extT_move rfl rfl (by rfl) (by rfl) ?_
     | refine extT_assign rfl rfl (by rfl) (by rfl) ?_
     | refine extT_pick_t rfl rfl (by rfl) (by rfl) (by rfl) ?_
     | refine extT_pick_f rfl rfl (by rfl) (by rfl) (by rfl) ?_
     | (apply extT_take rfl (by rfl)
        · intro w' hS
          have hSc := hS.cells
          (try simp only [World.size_drew, World.cell?_drew] at hSc)
          go_simp
          (try simp (disch := omega) only [i64_id, u64_id, ↓IntWalk.iteOmega, Int.tdiv_eq_ediv_of_nonneg, Int.tmod_eq_emod_of_nonneg])
          try rfl)
     | refine extT_pass rfl (by rfl) ?_); simp only [Act.put, setZa, setZ0, setZ1])
    refine extT_twoB rfl rfl (by rfl) (by rfl) (fun K hK => ?_) (fun K hK => ?_)
    go_simp
    go_at_call 168
    refine (vsize_any B R D P n.C q ce g c 0 _ (HRb.out.ext hq) (HPb.out.dsk.ext hq)).mono ?_
    rintro e We ⟨rfl, hxe⟩
    replace hq := hq.trans hxe
    skip
    refine hK _ _ hq ?_
    clear hK K hxe
    (try simp only [Act.put, setZa, setZ0, setZ1])
    iterate 3 ((first
     | refine extT_move rfl rfl (by rfl) (by rfl) ?_
     | refine extT_assign rfl rfl (by rfl) (by rfl) ?_
     | refine extT_pick_t rfl rfl (by rfl) (by rfl) (by rfl) ?_
     | refine extT_pick_f rfl rfl (by rfl) (by rfl) (by rfl) ?_
     | (apply extT_take rfl (by rfl)
        · intro w' hS
          have hSc := hS.cells
          (try simp only [World.size_drew, World.cell?_drew] at hSc)
          go_simp
          (try simp (disch := omega) only [i64_id])
          try rfl)
     | refine extT_pass rfl (by rfl) ?_); simp only [Act.put, setZa, setZ0, setZ1])
    refine extT_doB rfl (by rfl) (fun K hK => ?_)
    go_simp
    have hal := BoxAt.new We #[.int .i64 0] 3
    have hle := hq.size
    replace hq := hq.trans (Ext.alloc _ (.cells #[.int .i64 0] 3))
    refine hK _ _ hq ?_
    clear hK K
    (try simp only [Act.put, setZa, setZ0, setZ1])
    refine extT_doB rfl (by rfl) (fun K hK => ?_)
    refine wp_of_list rfl ?_
    refine wpList_store_cell 3 _ _ rfl (by rfl) (i := 0) rfl rfl hal (by simp) (by kernel_rfl) rfl ?_
    intro Wf hS
    have HSf := Lib.hid hS.box
    have HQf := Lib.hid (show Ext Wb Wf from hS.bel hq hle)
    refine hK _ _ HQf.out ?_
    clear hK K hS
    (try simp only [Act.put])
    refine extT_nil ?_
    skip
    rotate_left
    go_simp
    have hal := BoxAt.new Wd #[.int .i64 0] 3
    have hle := hq.size
    replace hq := hq.trans (Ext.alloc _ (.cells #[.int .i64 0] 3))
    refine hK _ _ hq ?_
    clear hK K
    (try simp only [Act.put, setZa, setZ0, setZ1])
    refine extT_doB rfl (by rfl) (fun K hK => ?_)
    go_simp
    go_at_call 168
    refine (vsize_any B R D P n.C q ce g c 0 _ (HRb.out.ext hq) (HPb.out.dsk.ext hq)).mono ?_
    rintro e We ⟨rfl, hxe⟩
    replace hq := hq.trans hxe
    replace hal := hal.ext hxe
    refine hK _ _ hq ?_
    clear hK K hxe
    (try simp only [Act.put, setZa, setZ0, setZ1])
    iterate 3 ((first
     | refine extT_move rfl rfl (by rfl) (by rfl) ?_
     | refine extT_assign rfl rfl (by rfl) (by rfl) ?_
     | refine extT_pick_t rfl rfl (by rfl) (by rfl) (by rfl) ?_
     | refine extT_pick_f rfl rfl (by rfl) (by rfl) (by rfl) ?_
     | (apply extT_take rfl (by rfl)
        · intro w' hS
          have hSc := hS.cells
          (try simp only [World.size_drew, World.cell?_drew] at hSc)
          go_simp
          (try simp (disch := omega) only [i64_id])
          try rfl)
     | refine extT_pass rfl (by rfl) ?_); simp only [Act.put, setZa, setZ0, setZ1])
    refine extT_doB rfl (by rfl) (fun K hK => ?_)
    refine wp_of_list rfl ?_
    refine wpList_store_cell 3 _ _ rfl (by rfl) (i := 0) rfl rfl hal (by simp) (by kernel_rfl) rfl ?_
    intro Wf hS
    have HSf := Lib.hid hS.box
    have HQf := Lib.hid (show Ext Wb Wf from hS.bel hq hle)
    refine hK _ _ HQf.out ?_
    clear hK K hS
    (try simp only [Act.put])
    refine extT_nil ?_
    skip
    rotate_left
    go_simp
    have hal := BoxAt.new wc #[.int .i64 0] 3
    have hle := hq.size
    replace hq := hq.trans (Ext.alloc _ (.cells #[.int .i64 0] 3))
    refine hK _ _ hq ?_
    clear hK K
    (try simp only [Act.put, setZa, setZ0, setZ1])
    refine extT_doB rfl (by rfl) (fun K hK => ?_)
    go_simp
    go_at_call 109
    refine (dgeo_any B D P n.C _ (HPb.out.dsk.ext hq)).mono ?_
    rintro e Wd ⟨rfl, hxd⟩
    replace hq := hq.trans hxd
    replace hal := hal.ext hxd
    refine hK _ _ hq ?_
    clear hK K hxd
    (try simp only [Act.put, setZa, setZ0, setZ1])
    iterate 1 ((first
     | refine extT_move rfl rfl (by rfl) (by rfl) ?_
     | refine extT_assign rfl rfl (by rfl) (by rfl) ?_
     | refine extT_pick_t rfl rfl (by rfl) (by rfl) (by rfl) ?_
     | refine extT_pick_f rfl rfl (by rfl) (by rfl) (by rfl) ?_
     | (apply extT_take rfl (by rfl)
        · intro w' hS
          have hSc := hS.cells
          (try simp only [World.size_drew, World.cell?_drew] at hSc)
          go_simp
          (try simp (disch := omega) only [i64_id, u64_id, ↓IntWalk.iteOmega, Int.tdiv_eq_ediv_of_nonneg, Int.tmod_eq_emod_of_nonneg])
          try rfl)
     | refine extT_pass rfl (by rfl) ?_); simp only [Act.put, setZa, setZ0, setZ1])
    refine extT_doB rfl (by rfl) (fun K hK => ?_)
    go_simp
    go_at_call 168
    refine (vsize_any B R D P n.C q ce g c 0 _ (HRb.out.ext hq) (HPb.out.dsk.ext hq)).mono ?_
    rintro e We ⟨rfl, hxe⟩
    replace hq := hq.trans hxe
    replace hal := hal.ext hxe
    refine hK _ _ hq ?_
    clear hK K hxe
    (try simp only [Act.put, setZa, setZ0, setZ1])
    iterate 3 ((first
     | refine extT_move rfl rfl (by rfl) (by rfl) ?_
     | refine extT_assign rfl rfl (by rfl) (by rfl) ?_
     | refine extT_pick_t rfl rfl (by rfl) (by rfl) (by rfl) ?_
     | refine extT_pick_f rfl rfl (by rfl) (by rfl) (by rfl) ?_
     | (apply extT_take rfl (by rfl)
        · intro w' hS
          have hSc := hS.cells
          (try simp only [World.size_drew, World.cell?_drew] at hSc)
          go_simp
          (try simp (disch := omega) only [i64_id])
          try rfl)
     | refine extT_pass rfl (by rfl) ?_); simp only [Act.put, setZa, setZ0, setZ1])
    refine extT_doB rfl (by rfl) (fun K hK => ?_)
    refine wp_of_list rfl ?_
    refine wpList_store_cell 3 _ _ rfl (by rfl) (i := 0) rfl rfl hal (by simp) (by kernel_rfl) rfl ?_
    intro Wf hS
    have HSf := Lib.hid hS.box
    have HQf := Lib.hid (show Ext Wb Wf from hS.bel hq hle)
    refine hK _ _ HQf.out ?_
    clear hK K hS
    (try simp only [Act.put])
    refine extT_nil ?_
    skip
    rotate_left
  all_goals
    have hBf : B ≤ Wf.heap.size := Nat.le_trans hBw (Nat.le_trans HXb.out.size HQf.out.size)
    have HRf := Lib.hid (HRb.out.ext HQf.out)
    have HBf := Lib.hid (HBb.out.ext HQf.out)
    have HEf := Lib.hid (HEb.out.ext HQf.out)
    have HPf := Lib.hid (HPb.out.ext HQf.out)
    have H0f := Lib.hid (H0b.out.ext HQf.out)
    have H1f := Lib.hid (H1b.out.ext HQf.out)
    have HGf := Lib.hid (HGb.out.ext HQf.out)
    have HVf := Lib.hid (OwnB.ext0 HVb.out HQf.out)
    clear b0 m0 r0 r3 mr u0 mg hal hle hq hxc
    go_wp2_with first | (go_at_call 58; go_loud (refine (retry_any 180 (enters_of Tryz.func180 (by kernel_rfl) rfl) _ _ (fun w' => Pw B w' D P n xL ∧ Chg B TTd Wf w') (vapp1_any B R D P q ce g c _ _ _ _ 0 n (.slice va 37 vc) Wf HRf.out HPf.out hBf H0f.out HSf.out HGf.out HVf.out)).mono ?_); rintro e Wg ⟨rfl, hpw, hcg⟩; have HPW := Lib.hid hpw; have HCG := Lib.hid hcg; have HRg := Lib.hid (HRf.out.chg hcg (by decide)); have HEg := Lib.hid (HEf.out.chg hcg (by decide)); have HBg := Lib.hid (HBf.out.chg hcg (by decide)); have H0g := Lib.hid (H0f.out.chg hcg (by decide)); have H1g := Lib.hid (H1f.out.chg hcg (by decide)); have HAg := Lib.hid (HSf.out.chg hcg (by decide)); have b0 := H0g.out.cell 0 (v := .pointer (some ⟨R, 0, none⟩)) rfl; have m0 := H0g.out.lt; have r4 := HRg.out.cell 4 (v := .int .u64 0) rfl; have mr := HRg.out.lt; clear hpw hcg) | (refine wpList_store_cell 22 _ _ rfl (by rfl) (i := 4) rfl rfl HRg.out (by simp) (by kernel_rfl) rfl ?_; intro Wh hS; have hch : Chg B [144] Wg Wh := (Chg.refl _ _ _).stored HRg.out hS (by simp) hBR; have HRh : Hid (BoxAt Wh R (dvC D q ce g c 1) 144) := Lib.hid hS.box; have HCH := Lib.hid hch; have HEh := Lib.hid (HEg.out.chg hch (by decide)); have HBh := Lib.hid (HBg.out.chg hch (by decide)); have H0h := Lib.hid (H0g.out.chg hch (by decide)); have H1h := Lib.hid (H1g.out.chg hch (by decide)); have HAh := Lib.hid (HAg.out.chg hch (by decide)); have HPWh := Lib.hid (HPW.out.chg hch (by decide)); have b0 := H0h.out.cell 0 (v := .pointer (some ⟨R, 0, none⟩)) rfl; have m0 := H0h.out.lt; have y1 := H1h.out.cell 1 (v := .int .i64 1) rfl; have my := H1h.out.lt; clear hS hch b0 m0 r4 mr; have b0 := H0h.out.cell 0 (v := .pointer (some ⟨R, 0, none⟩)) rfl; have m0 := H0h.out.lt) | (go_at_call 174; go_loud (refine (vunlink_any B R D q ce g c 1 _ HRh.out HEh.out hBq (Nat.le_trans hBf (Nat.le_trans HCG.out.size HCH.out.size))).mono ?_); rintro e Wi ⟨rfl, hei, hci⟩; have HEi := Lib.hid hei; have HCI := Lib.hid hci; have HRi := Lib.hid (HRh.out.chg hci (by decide)); have HBi := Lib.hid (HBh.out.chg hci (by decide)); have H0i := Lib.hid (H0h.out.chg hci (by decide)); have H1i := Lib.hid (H1h.out.chg hci (by decide)); have HAi := Lib.hid (HAh.out.chg hci (by decide)); have HPWi := Lib.hid (HPWh.out.chg hci (by decide)); clear hei hci b0 m0 y1 my; have b0 := H0i.out.cell 0 (v := .pointer (some ⟨R, 0, none⟩)) rfl; have m0 := H0i.out.lt; have r3 := HRi.out.cell 3 (v := .slice (some ⟨g, 0, none⟩) 5 c) rfl; have r4 := HRi.out.cell 4 (v := .int .u64 1) rfl; have mr := HRi.out.lt)
    refine wp_region_exq [(0, true), (1, true), (2, true), (3, true), (4, true), (5, true), (7, true), (8, true), (9, true), (10, true), (11, true), (6, false), (12, false), (13, true), (14, true), (15, true), (16, true), (17, true), (18, false)] (by kernel_rfl) (by kernel_rfl) ?_
    iterate 11 ((first
     | refine exq_move rfl rfl (by rfl) (by rfl) ?_
     | refine exq_assign rfl rfl (by rfl) (by rfl) ?_
     | refine exq_pick_t rfl rfl (by rfl) (by rfl) (by rfl) ?_
     | refine exq_pick_f rfl rfl (by rfl) (by rfl) (by rfl) ?_
     | (apply exq_take rfl (by rfl)
        · intro w' hS
          have hSc := hS.cells
          (try simp only [World.size_drew, World.cell?_drew] at hSc)
          go_simp
          (try simp (disch := omega) only [i64_id, u64_id, ↓IntWalk.iteOmega, Int.tdiv_eq_ediv_of_nonneg, Int.tmod_eq_emod_of_nonneg])
          try rfl)
     | refine exq_pass rfl (by rfl) ?_); simp only [Act.put, setZa, setZ0, setZ1])
    (refine exq_do rfl (by rfl) (fun K hK => ?_)
     go_simp
     go_at_call 168
     refine (vsize_any B R D P n.C q ce g c 1 _ (HRi.out.ext (by first | exact Ext.refl _ | exact Ext.drew _)) (HPWi.out.dsk.ext (by first | exact Ext.refl _ | exact Ext.drew _))).mono ?_
     rintro e Wj ⟨rfl, hxj⟩
     have HXJ : Hid (Ext Wi Wj) := Lib.hid (Ext.trans (by first | exact Ext.refl _ | exact Ext.drew _) hxj)
     refine hK _ _ (by first | exact hxj | exact HXJ.out) ?_
     clear hK K hxj
     (try simp only [Act.put, setZa, setZ0, setZ1]))
    (refine exq_do rfl (by rfl) (fun K hK => ?_)
     go_simp
     go_at_call 182
     refine (bappend_any g c _ (HBi.out.ext HXJ.out)).mono ?_
     rintro e Wk ⟨g', c', rfl, hxk⟩
     have HXK := Lib.hid (HXJ.out.trans hxk)
     refine hK _ _ hxk ?_
     clear hK K hxk
     (try simp only [Act.put, setZa, setZ0, setZ1]))
    iterate 5 ((first
     | refine exq_move rfl rfl (by rfl) (by rfl) ?_
     | refine exq_assign rfl rfl (by rfl) (by rfl) ?_
     | refine exq_pick_t rfl rfl (by rfl) (by rfl) (by rfl) ?_
     | refine exq_pick_f rfl rfl (by rfl) (by rfl) (by rfl) ?_
     | (apply exq_take rfl (by rfl)
        · intro w' hS
          have hSc := hS.cells
          (try simp only [World.size_drew, World.cell?_drew] at hSc)
          go_simp
          (try simp (disch := omega) only [i64_id, u64_id, ↓IntWalk.iteOmega, Int.tdiv_eq_ediv_of_nonneg, Int.tmod_eq_emod_of_nonneg])
          try rfl)
     | refine exq_pass rfl (by rfl) ?_); simp only [Act.put, setZa, setZ0, setZ1])
    (refine exq_store rfl (by rfl) (by kernel_rfl) (fun K hK => ?_)
     refine wp_of_list rfl ?_
     refine wpList_store_cell 142 _ _ rfl (by rfl) (i := 3) rfl rfl (HRi.out.ext HXK.out) (by simp) (by kernel_rfl) rfl ?_
     intro Wl hS
     have HSl : Hid (Stored Wk Wl R (dvC D q ce g' c' 1) 144) := Lib.hid hS
     refine hK _ _ ?_
     clear hK K hS
     (try simp only [Act.put]))
    refine exq_nil ?_
    have hcl : Chg B [144] Wk Wl := (Chg.refl _ _ _).stored (HRi.out.ext HXK.out) HSl.out (by simp) hBR
    have HCL := Lib.hid hcl
    have HEl := Lib.hid ((HEi.out.ext HXK.out).chg hcl (by decide))
    have H0l := Lib.hid ((H0i.out.ext HXK.out).chg hcl (by decide))
    have H1l := Lib.hid ((H1i.out.ext HXK.out).chg hcl (by decide))
    have HAl := Lib.hid ((HAi.out.ext HXK.out).chg hcl (by decide))
    have HPWl := Lib.hid ((HPWi.out.ext HXK.out).chg hcl (by decide))
    obtain ⟨EA, hea1, hea2⟩ := HEl.out
    have HEA := Lib.hid hea1
    have HEA2 := Lib.hid hea2
    clear hcl b0 m0 r3 r4 mr hea1 hea2
    have b0 := H0l.out.cell 0 (v := .pointer (some ⟨R, 0, none⟩)) rfl
    have m0 := H0l.out.lt
    have r2 := HSl.out.box.cell 2 (v := .slice (some ⟨q, 0, none⟩) 4 ce) rfl
    have mr := HSl.out.box.lt
    have y0 := H1l.out.cell 0 (v := .int .i64 1) rfl
    have y1 := H1l.out.cell 1 (v := .int .i64 1) rfl
    have y2 := H1l.out.cell 2 (v := .int .u64 5) rfl
    have my := H1l.out.lt
    have z0 := HAl.out.cell 0 (v := .int .i64 60) rfl
    have mz := HAl.out.lt
    go_wp2_with fail
    refine wp_region_exq [(0, true), (1, true), (2, true), (3, true), (4, true), (5, true), (6, true), (7, true), (8, true), (9, true), (10, true), (11, true), (12, true), (13, false)] (by kernel_rfl) (by kernel_rfl) ?_
    iterate 13 ((first
     | refine exq_move rfl rfl (by rfl) (by rfl) ?_
     | refine exq_assign rfl rfl (by rfl) (by rfl) ?_
     | refine exq_pick_t rfl rfl (by rfl) (by rfl) (by rfl) ?_
     | refine exq_pick_f rfl rfl (by rfl) (by rfl) (by rfl) ?_
     | (apply exq_take rfl (by rfl)
        · intro w' hS
          have hSc := hS.cells
          (try simp only [World.size_drew, World.cell?_drew] at hSc)
          go_simp
          (try simp (disch := omega) only [i64_id, u64_id, ↓IntWalk.iteOmega, Int.tdiv_eq_ediv_of_nonneg, Int.tmod_eq_emod_of_nonneg])
          try rfl)
     | refine exq_pass rfl (by rfl) ?_); simp only [Act.put, setZa, setZ0, setZ1])
    (refine exq_store rfl (by rfl) (by kernel_rfl) (fun K hK => ?_)
     refine wp_of_list rfl ?_
     refine wpList_store_part 154 _ _ rfl (by rfl) (i := 3) (cells := #[.int .i64 1, .int .u64 5, .int .i64 60]) rfl rfl (HEA.out.ext (Ext.drew _)) (by have := ent_size HEA2.out; simp; omega) (by kernel_rfl) (by simp [Value.oneCell']) ?_
     intro Wm hS
     have HSm := Lib.hid hS
     refine hK _ _ ?_
     clear hK K hS
     (try simp only [Act.put]))
    refine exq_nil ?_
    go_wp2_with fail
    go_ret
    have hcm : Chg B [154] Wl Wm := (Chg.ext (Ext.drew Wl) (by
      have h1 := HCL.out.size
      have h2 := HXK.out.size
      have h3 := HCI.out.size
      have h4 := HCH.out.size
      have h5 := HCG.out.size
      omega)).stored (HEA.out.ext (Ext.drew _)) HSm.out (by simp) hBq
    have hlen := ent_size HEA2.out
    have c1 : Chg B TTd w Wg := (Chg.ext (HXb.out.trans HQf.out) hBw).trans HCG.out
    have c2 : Chg B (144 :: 154 :: TTd) w Wi := (c1.wide (by decide)).trans ((HCH.out.wide (by decide)).trans (HCI.out.wide (by decide)))
    refine ⟨rfl, ⟨g', c', HSl.out.box.chg hcm (by decide)⟩, ⟨_, HSm.out.box, ?_, ?_, ?_⟩, HPWl.out.chg hcm (by decide), (c2.more HXK.out hBw).trans ((HCL.out.wide (by decide)).trans (hcm.wide (by decide)))⟩
    · exact putL_get0 (by omega)
    · simp only [putL]
      rw [Array.getElem?_setIfInBounds, if_neg (by decide), Array.getElem?_setIfInBounds]
      simp
      omega
    · simp only [putL]
      rw [Array.getElem?_setIfInBounds]
      simp
      omega
end Go.Proofs.YtjabgpejmnpamaaGreatDoor
