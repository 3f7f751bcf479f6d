/-
  Part 9 of the proof: The drive: an entry is appended. The drive: Write. The drive: Read. The drive: fetch, Read. Chapter 30 (label): Valid, whole. Chapter 30 (label): Valid of the answer. Chapter 30 (label): Valid of the answer, whole. Chapter 30 (label): configurations compared; labels compared.
-/
import Derived.Test.YtjabgpejmnpamaaGreatDoorZ08
import Derived.Test.YtjabgpejmnpamaaGreatDoorZ02
set_option linter.unusedVariables false
namespace Go.Proofs.YtjabgpejmnpamaaGreatDoor
open Go.RowKit Go.Shelf
set_option maxRecDepth 100000
set_option maxHeartbeats 4000000 in
theorem vapp1_any (B R D P q ce g c gR gA gB bb : Nat) (t : Int) (n : Cn) (v : Value) (w : World) (h : BoxAt w R (dvC D q ce g c t) 144) (hp : Ph B w D P n []) (hBw : B ≤ w.heap.size) (hR : BoxAt w gR #[.pointer (some ⟨R, 0, none⟩)] 71) (hA : BoxAt w gA #[.int .i64 60] 3) (hV : BoxAt w gB #[v] 47) (hv : OwnB w bb v xL) :
    Calls Tryz.prog 180 #[.pointer (some ⟨gR, 0, none⟩), .pointer (some ⟨gA, 0, none⟩), .pointer (some ⟨gB, 0, none⟩)] w fun e w' => e = .returned (.int .i64 0) ∧ Pw B w' D P n xL ∧ Chg B TTd w w' := by
  obtain ⟨va, vc, rfl⟩ := own_shape hv
  rw [xL_len] at hV hv
  have HP := Lib.hid hp
  have HV := Lib.hid hv
  have a0 := hR.cell 0 (v := .pointer (some ⟨R, 0, none⟩)) rfl
  have a1 := hA.cell 0 (v := .int .i64 60) rfl
  have a2 := hV.cell 0 (v := .slice va 37 vc) rfl
  have a3 := h.cell 0 (v := .pointer (some ⟨D, 0, none⟩)) rfl
  have a4 := h.cell 1 (v := .int .u64 0) rfl
  have l0 := hR.lt
  have l1 := hA.lt
  have l2 := hV.lt
  have l3 := h.lt
  clear h hp hR hA hV hv
  go_enter Tryz.func180, Tryz.ntmps180
  go_wp2_with fail
  refine wp_region_ext [(0, true), (1, true), (2, true), (3, true), (4, true), (5, true), (6, true), (7, true), (8, true), (9, true), (10, false), (11, true)] (by kernel_rfl) (by kernel_rfl) ?_
  iterate 10 ((first
   | refine ext_move rfl rfl (by rfl) (by rfl) ?_
   | refine ext_assign rfl rfl (by rfl) (by rfl) ?_
   | refine ext_pick_t rfl rfl (by rfl) (by rfl) (by rfl) ?_
   | refine ext_pick_f rfl rfl (by rfl) (by rfl) (by rfl) ?_
   | (apply ext_take rfl (by rfl)
      · intro w' hS
        have hSc := hS.cells
        (try simp only [World.size_drew, World.cell?_drew] at hSc)
        go_simp
        (try simp (disch := omega) only [i64_id, u64_id, ↓IntWalk.iteOmega, Int.tdiv_eq_ediv_of_nonneg, Int.tmod_eq_emod_of_nonneg])
        try rfl)
   | refine ext_pass rfl (by rfl) ?_); simp only [Act.put, setZa, setZ0, setZ1])
  (refine ext_store rfl (by rfl) (by kernel_rfl) (fun K hK => ?_)
   go_simp
   go_at_call 181
   refine (dwrite_any B D P bb n (.slice va 37 vc) xL (by rw [xL_len]; decide) _ (HP.out.ext (by first | exact Ext.refl _ | exact Ext.drew _)) (by first | exact hBw | exact Nat.le_trans hBw (Ext.drew _).size) (OwnB.ext0 HV.out (by first | exact Ext.refl _ | exact Ext.drew _))).mono ?_
   rintro e W1 ⟨rfl, h1, h2⟩
   have H1 := Lib.hid h1
   have H2 := Lib.hid h2
   refine hK _ _ ?_
   clear hK K h1 h2
   (try simp only [Act.put, setZa, setZ0, setZ1]))
  iterate 1 ((first
   | refine ext_move rfl rfl (by rfl) (by rfl) ?_
   | refine ext_assign rfl rfl (by rfl) (by rfl) ?_
   | refine ext_pick_t rfl rfl (by rfl) (by rfl) (by rfl) ?_
   | refine ext_pick_f rfl rfl (by rfl) (by rfl) (by rfl) ?_
   | (apply ext_take rfl (by rfl)
      · intro w' hS
        have hSc := hS.cells
        (try simp only [World.size_drew, World.cell?_drew] at hSc)
        go_simp
        (try simp (disch := omega) only [i64_id, u64_id, ↓IntWalk.iteOmega, Int.tdiv_eq_ediv_of_nonneg, Int.tmod_eq_emod_of_nonneg])
        try rfl)
   | refine ext_pass rfl (by rfl) ?_); simp only [Act.put, setZa, setZ0, setZ1])
  refine ext_nil ?_
  go_wp2_with fail
  go_ret
  exact ⟨rfl, H1.out, (Chg.ext (Ext.drew w) hBw).trans H2.out⟩
abbrev apW (w : World) (R : Nat) : World := (w.alloc (.cells #[.pointer (some ⟨R, 0, none⟩)] 71)).alloc (.cells #[.int .i64 1, .int .i64 1, .int .u64 5, .int .u8 9, .int .u8 0, .int .u8 0, .int .u8 0, .int .u8 0, .int .u8 0, .int .u8 0, .int .u8 0] 151)
theorem apW_ext (w : World) (R : Nat) : Ext w (apW w R) := (Ext.alloc _ _).trans (Ext.alloc _ _)
theorem apW_0 (w : World) (R : Nat) : BoxAt (apW w R) w.heap.size #[.pointer (some ⟨R, 0, none⟩)] 71 := (BoxAt.new w _ _).ext (Ext.alloc _ _)
theorem apW_1 (w : World) (R : Nat) : BoxAt (apW w R) (w.heap.size + 1) #[.int .i64 1, .int .i64 1, .int .u64 5, .int .u8 9, .int .u8 0, .int .u8 0, .int .u8 0, .int .u8 0, .int .u8 0, .int .u8 0, .int .u8 0] 151 := by
  have h := BoxAt.new (w.alloc (.cells #[.pointer (some ⟨R, 0, none⟩)] 71)) #[.int .i64 1, .int .i64 1, .int .u64 5, .int .u8 9, .int .u8 0, .int .u8 0, .int .u8 0, .int .u8 0, .int .u8 0, .int .u8 0, .int .u8 0] 151
  rwa [World.size_alloc] at h
set_option maxHeartbeats 8000000 in
theorem vapp_any (B R D P q ce g c : Nat) (n : Cn) (w : World) (h : BoxAt w R (dvC D q ce g c 0) 144) (he : Ent w q) (hb : Bnd w g c) (hp : Ph B w D P n []) (hBw : B ≤ w.heap.size) (hBR : B ≤ R) (hBq : B ≤ q) :
    Calls Tryz.prog 119 #[.pointer (some ⟨R, 0, none⟩), xV, .int .i64 (-1)] w fun e w' => e = .returned (.int .i64 0) ∧
      (∃ g' c', BoxAt w' R (dvC D q ce g' c' 1) 144) ∧ (∃ EA, BoxAt w' q EA 154 ∧ EA[3]? = some (.int .i64 1) ∧ EA[4]? = some (.int .u64 5) ∧ EA[5]? = some (.int .i64 60)) ∧ Pw B w' D P n xL ∧ Chg B (144 :: 154 :: TTd) w w' := by
  have HX := Lib.hid (apW_ext w R)
  have H0 := Lib.hid (apW_0 w R)
  have H1 := Lib.hid (apW_1 w R)
  have HR := Lib.hid (h.ext HX.out)
  have HE := Lib.hid (he.ext HX.out)
  have HB := Lib.hid (hb.ext HX.out)
  have HP := Lib.hid (hp.ext HX.out)
  have a0 := H0.out.cell 0 (v := .pointer (some ⟨R, 0, none⟩)) rfl
  have l0 := H0.out.lt
  clear h he hb hp
  go_enter Tryz.func119, Tryz.ntmps119
  go_wp2_with (go_at_call 178; go_loud (refine (vopen_any B R D P n.C q ce g c 0 _ HR.out HP.out.dsk HB.out).mono ?_); rintro e W1 ⟨rfl, hx1⟩; have HX1 := Lib.hid hx1; have b0 := (H0.out.ext hx1).cell 0 (v := .pointer (some ⟨R, 0, none⟩)) rfl; have m0 := (H0.out.ext hx1).lt; have hr1 := HR.out.ext hx1; have b4 := hr1.cell 4 (v := .int .u64 0) rfl; have m4 := hr1.lt; have h1 := H1.out.ext hx1; have x0 := h1.cell 0 (v := .int .i64 1) rfl; have x1 := h1.cell 1 (v := .int .i64 1) rfl; have x2 := h1.cell 2 (v := .int .u64 5) rfl; have x3 := h1.cell 3 (v := .int .u8 9) rfl; have x4 := h1.cell 4 (v := .int .u8 0) rfl; have x5 := h1.cell 5 (v := .int .u8 0) rfl; have x6 := h1.cell 6 (v := .int .u8 0) rfl; have x7 := h1.cell 7 (v := .int .u8 0) rfl; have x8 := h1.cell 8 (v := .int .u8 0) rfl; have x9 := h1.cell 9 (v := .int .u8 0) rfl; have x10 := h1.cell 10 (v := .int .u8 0) rfl; have mx := h1.lt; clear hx1 hr1 h1 a0 l0)
  refine wp_region_extTB (.take 0 (.take 1 (.take 2 (.take 3 (.take 4 (.take 5 (.two 6 10 (.take 7 (.take 8 (.take 9 (.one 10 (.one 11 (.take 12 .done)))))) (.one 6 (.take 7 (.take 8 (.take 9 (.one 11 (.take 12 .done))))))))))))) (by kernel_rfl) (by kernel_rfl) (fun wc hxc => ?_)
  have hq := hxc
  iterate 6 ((first
   | refine extT_move rfl rfl (by rfl) (by rfl) ?_
   | refine extT_assign rfl rfl (by rfl) (by rfl) ?_
   | refine extT_pick_t rfl rfl (by rfl) (by rfl) (by rfl) ?_
   | refine extT_pick_f rfl rfl (by rfl) (by rfl) (by rfl) ?_
   | (apply extT_take rfl (by rfl)
      · intro w' hS
        have hSc := hS.cells
        (try simp only [World.size_drew, World.cell?_drew] at hSc)
        go_simp
        (try simp (disch := omega) only [u64_id])
        try rfl)
   | refine extT_pass rfl (by rfl) ?_); simp only [Act.put, setZa, setZ0, setZ1])
  refine extT_twoB rfl rfl (by rfl) (by rfl) (fun K hK => ?_) (fun K hK => ?_)
  go_simp
  go_at_call 179
  refine (xenc_any _).mono ?_
  rintro e Wa ⟨v', rfl, hv', hxa⟩
  obtain ⟨va, vc, rfl⟩ := own_shape hv'
  rw [xL_len] at hv' ⊢
  replace hq := hq.trans hxa
  skip
  have HV' := Lib.hid hv'
  refine hK _ _ hq ?_
  clear hK K hxa hv'
  (try simp only [Act.put, setZa, setZ0, setZ1])
  iterate 3 ((first
   | refine extT_move rfl rfl (by rfl) (by rfl) ?_
   | refine extT_assign rfl rfl (by rfl) (by rfl) ?_
   | refine extT_pick_t rfl rfl (by rfl) (by rfl) (by rfl) ?_
   | refine extT_pick_f rfl rfl (by rfl) (by rfl) (by rfl) ?_
   | (apply extT_take rfl (by rfl)
      · intro w' hS
        have hSc := hS.cells
        (try simp only [World.size_drew, World.cell?_drew] at hSc)
        go_simp
        (try simp (disch := omega) only [i64_id, u64_id, ↓IntWalk.iteOmega, Int.tdiv_eq_ediv_of_nonneg, Int.tmod_eq_emod_of_nonneg])
        try rfl)
   | refine extT_pass rfl (by rfl) ?_); simp only [Act.put, setZa, setZ0, setZ1])
  refine extT_doB rfl (by rfl) (fun K hK => ?_)
  go_simp
  (try replace HV' := Lib.hid (OwnB.ext0 HV'.out (Ext.alloc _ (.cells #[.slice none 0 0] 47))))
  have hal := BoxAt.new Wa #[.slice none 0 0] 47
  have hle := hq.size
  replace hq := hq.trans (Ext.alloc _ (.cells #[.slice none 0 0] 47))
  refine hK _ _ hq ?_
  clear hK K
  (try simp only [Act.put, setZa, setZ0, setZ1])
  refine extT_doB rfl (by rfl) (fun K hK => ?_)
  refine wp_of_list rfl ?_
  refine wpList_store_cell 47 _ _ rfl (by rfl) (i := 0) rfl rfl hal (by simp) (by kernel_rfl) rfl ?_
  intro Wb hS
  have HS := Lib.hid hS
  have HQ := Lib.hid (show Ext W1 Wb from hS.bel hq hle)
  have HVb := Lib.hid (ownsRow_chg ((Chg.refl 0 [47] _).stored hal hS (by simp) (Nat.zero_le _)) HV'.out (by decide))
  refine hK _ _ HQ.out ?_
  clear hK K hS
  (try simp only [Act.put])
  iterate 1 ((first
   | refine extT_move rfl rfl (by rfl) (by rfl) ?_
   | refine extT_assign rfl rfl (by rfl) (by rfl) ?_
   | refine extT_pick_t rfl rfl (by rfl) (by rfl) (by rfl) ?_
   | refine extT_pick_f rfl rfl (by rfl) (by rfl) (by rfl) ?_
   | (apply extT_take rfl (by rfl)
      · intro w' hS
        have hSc := hS.cells
        (try simp only [World.size_drew, World.cell?_drew] at hSc)
        go_simp
        (try simp (disch := omega) only [i64_id, u64_id, ↓IntWalk.iteOmega, Int.tdiv_eq_ediv_of_nonneg, Int.tmod_eq_emod_of_nonneg])
        try rfl)
   | refine extT_pass rfl (by rfl) ?_); simp only [Act.put, setZa, setZ0, setZ1])
  refine extT_nil ?_
  skip
  rotate_left
  go_simp
  (try replace HV' := Lib.hid (OwnB.ext0 HV'.out (Ext.alloc _ (.cells #[.slice none 0 0] 47))))
  have hal := BoxAt.new wc #[.slice none 0 0] 47
  have hle := hq.size
  replace hq := hq.trans (Ext.alloc _ (.cells #[.slice none 0 0] 47))
  refine hK _ _ hq ?_
  clear hK K
  (try simp only [Act.put, setZa, setZ0, setZ1])
  refine extT_doB rfl (by rfl) (fun K hK => ?_)
  go_simp
  go_at_call 179
  refine (xenc_any _).mono ?_
  rintro e Wa ⟨v', rfl, hv', hxa⟩
  obtain ⟨va, vc, rfl⟩ := own_shape hv'
  rw [xL_len] at hv' ⊢
  replace hq := hq.trans hxa
  replace hal := hal.ext hxa
  have HV' := Lib.hid hv'
  refine hK _ _ hq ?_
  clear hK K hxa hv'
  (try simp only [Act.put, setZa, setZ0, setZ1])
  iterate 3 ((first
   | refine extT_move rfl rfl (by rfl) (by rfl) ?_
   | refine extT_assign rfl rfl (by rfl) (by rfl) ?_
   | refine extT_pick_t rfl rfl (by rfl) (by rfl) (by rfl) ?_
   | refine extT_pick_f rfl rfl (by rfl) (by rfl) (by rfl) ?_
   | (apply extT_take rfl (by rfl)
      · intro w' hS
        have hSc := hS.cells
        (try simp only [World.size_drew, World.cell?_drew] at hSc)
        go_simp
        (try simp (disch := omega) only [i64_id, u64_id, ↓IntWalk.iteOmega, Int.tdiv_eq_ediv_of_nonneg, Int.tmod_eq_emod_of_nonneg])
        try rfl)
   | refine extT_pass rfl (by rfl) ?_); simp only [Act.put, setZa, setZ0, setZ1])
  refine extT_doB rfl (by rfl) (fun K hK => ?_)
  refine wp_of_list rfl ?_
  refine wpList_store_cell 47 _ _ rfl (by rfl) (i := 0) rfl rfl hal (by simp) (by kernel_rfl) rfl ?_
  intro Wb hS
  have HS := Lib.hid hS
  have HQ := Lib.hid (show Ext W1 Wb from hS.bel hq hle)
  have HVb := Lib.hid (ownsRow_chg ((Chg.refl 0 [47] _).stored hal hS (by simp) (Nat.zero_le _)) HV'.out (by decide))
  refine hK _ _ HQ.out ?_
  clear hK K hS
  (try simp only [Act.put])
  iterate 1 ((first
   | refine extT_move rfl rfl (by rfl) (by rfl) ?_
   | refine extT_assign rfl rfl (by rfl) (by rfl) ?_
   | refine extT_pick_t rfl rfl (by rfl) (by rfl) (by rfl) ?_
   | refine extT_pick_f rfl rfl (by rfl) (by rfl) (by rfl) ?_
   | (apply extT_take rfl (by rfl)
      · intro w' hS
        have hSc := hS.cells
        (try simp only [World.size_drew, World.cell?_drew] at hSc)
        go_simp
        (try simp (disch := omega) only [i64_id, u64_id, ↓IntWalk.iteOmega, Int.tdiv_eq_ediv_of_nonneg, Int.tmod_eq_emod_of_nonneg])
        try rfl)
   | refine extT_pass rfl (by rfl) ?_); simp only [Act.put, setZa, setZ0, setZ1])
  refine extT_nil ?_
  skip
  rotate_left
  all_goals
    have HXb := Lib.hid (HX.out.trans (HX1.out.trans HQ.out))
    have HRb := Lib.hid (HR.out.ext (HX1.out.trans HQ.out))
    have HBb := Lib.hid (HB.out.ext (HX1.out.trans HQ.out))
    have HEb := Lib.hid (HE.out.ext (HX1.out.trans HQ.out))
    have HPb := Lib.hid (HP.out.ext (HX1.out.trans HQ.out))
    have H0b := Lib.hid (H0.out.ext (HX1.out.trans HQ.out))
    have H1b := Lib.hid (H1.out.ext (HX1.out.trans HQ.out))
    have HGb := Lib.hid HS.out.box
    clear b0 m0 b4 m4 x0 x1 x2 x3 x4 x5 x6 x7 x8 x9 x10 mx hal hle hq hxc
    have b0 := H0b.out.cell 0 (v := .pointer (some ⟨R, 0, none⟩)) rfl
    have m0 := H0b.out.lt
    have r0 := HRb.out.cell 0 (v := .pointer (some ⟨D, 0, none⟩)) rfl
    have r3 := HRb.out.cell 3 (v := .slice (some ⟨g, 0, none⟩) 5 c) rfl
    have mr := HRb.out.lt
    have u0 : Wb.cell? ⟨g, 0, none⟩ = some (.int .i64 0) := by
      have := (HBb.out.at 0 (by decide)).1
      simpa using this
    have mg := HBb.out.lt
    go_wp2_with fail
    refine wp_region_extTB (.take 0 (.take 1 (.take 2 (.take 3 (.take 6 (.take 7 (.take 11 (.take 12 (.take 13 (.take 14 (.take 15 (.take 16 (.take 17 (.take 18 (.two 4 20 (.take 5 (.two 8 20 (.take 9 (.take 10 (.take 19 (.one 20 (.one 21 .done))))) (.one 8 (.take 9 (.take 10 (.take 19 (.one 21 .done))))))) (.one 4 (.take 5 (.one 8 (.take 9 (.take 10 (.take 19 (.one 21 .done)))))))))))))))))))))) (by kernel_rfl) (by kernel_rfl) (fun wc hxc => ?_)
    have hq := hxc
    iterate 14 ((first
     | refine extT_move rfl rfl (by rfl) (by rfl) ?_
     | refine extT_assign rfl rfl (by rfl) (by rfl) ?_
     | refine extT_pick_t rfl rfl (by rfl) (by rfl) (by rfl) ?_
     | refine extT_pick_f rfl rfl (by rfl) (by rfl) (by rfl) ?_
     | (apply extT_take rfl (by rfl)
        · intro w' hS
          have hSc := hS.cells
          (try simp only [World.size_drew, World.cell?_drew] at hSc)
          go_simp
          (try simp (disch := omega) only [i64_id, u64_id, ↓IntWalk.iteOmega, Int.tdiv_eq_ediv_of_nonneg, Int.tmod_eq_emod_of_nonneg])
          try rfl)
     | refine extT_pass rfl (by rfl) ?_); simp only [Act.put, setZa, setZ0, setZ1])
    refine extT_twoB rfl rfl (by rfl) (by rfl) (fun K hK => ?_) (fun K hK => ?_)
    go_simp
    go_at_call 109
    refine (dgeo_any B D P n.C _ (HPb.out.dsk.ext hq)).mono ?_
    rintro e Wd ⟨rfl, hxd⟩
    replace hq := hq.trans hxd
    skip
    refine hK _ _ hq ?_
    clear hK K hxd
    (try simp only [Act.put, setZa, setZ0, setZ1])
    iterate 1 ((first
     | refine extT_move rfl rfl (by rfl) (by rfl) ?_
     | refine extT_assign rfl rfl (by rfl) (by rfl) ?_
     | refine extT_pick_t rfl rfl (by rfl) (by rfl) (by rfl) ?_
     | refine extT_pick_f rfl rfl (by rfl) (by rfl) (by rfl) ?_
     | (apply extT_take rfl (by rfl)
        · intro w' hS
          have hSc := hS.cells
          (try simp only [World.size_drew, World.cell?_drew] at hSc)
          go_simp
          (try simp (disch := omega) only [i64_id, u64_id, ↓IntWalk.iteOmega, Int.tdiv_eq_ediv_of_nonneg, Int.tmod_eq_emod_of_nonneg])
          try rfl)
     | refine extT_pass rfl (by rfl) ?_); simp only [Act.put, setZa, setZ0, setZ1])
    refine extT_twoB rfl rfl (by rfl) (by rfl) (fun K hK => ?_) (fun K hK => ?_)
    go_simp
    go_at_call 168
    refine (vsize_any B R D P n.C q ce g c 0 _ (HRb.out.ext hq) (HPb.out.dsk.ext hq)).mono ?_
    rintro e We ⟨rfl, hxe⟩
    replace hq := hq.trans hxe
    skip
    refine hK _ _ hq ?_
    clear hK K hxe
    (try simp only [Act.put, setZa, setZ0, setZ1])
    iterate 3 ((first
     | refine extT_move rfl rfl (by rfl) (by rfl) ?_
     | refine extT_assign rfl rfl (by rfl) (by rfl) ?_
     | refine extT_pick_t rfl rfl (by rfl) (by rfl) (by rfl) ?_
     | refine extT_pick_f rfl rfl (by rfl) (by rfl) (by rfl) ?_
     | (apply extT_take rfl (by rfl)
        · intro w' hS
          have hSc := hS.cells
          (try simp only [World.size_drew, World.cell?_drew] at hSc)
          go_simp
          (try simp (disch := omega) only [i64_id])
          try rfl)
     | refine extT_pass rfl (by rfl) ?_); simp only [Act.put, setZa, setZ0, setZ1])
    refine extT_doB rfl (by rfl) (fun K hK => ?_)
    go_simp
    have hal := BoxAt.new We #[.int .i64 0] 3
    have hle := hq.size
    replace hq := hq.trans (Ext.alloc _ (.cells #[.int .i64 0] 3))
    refine hK _ _ hq ?_
    clear hK K
    (try simp only [Act.put, setZa, setZ0, setZ1])
    refine extT_doB rfl (by rfl) (fun K hK => ?_)
    refine wp_of_list rfl ?_
    refine wpList_store_cell 3 _ _ rfl (by rfl) (i := 0) rfl rfl hal (by simp) (by kernel_rfl) rfl ?_
    intro Wf hS
    have HSf := Lib.hid hS.box
    have HQf := Lib.hid (show Ext Wb Wf from hS.bel hq hle)
    refine hK _ _ HQf.out ?_
    clear hK K hS
    (try simp only [Act.put])
    refine extT_nil ?_
    skip
    rotate_left
    go_simp
    have hal := BoxAt.new Wd #[.int .i64 0] 3
    have hle := hq.size
    replace hq := hq.trans (Ext.alloc _ (.cells #[.int .i64 0] 3))
    refine hK _ _ hq ?_
    clear hK K
    (try simp only [Act.put, setZa, setZ0, setZ1])
    refine extT_doB rfl (by rfl) (fun K hK => ?_)
    go_simp
    go_at_call 168
    refine (vsize_any B R D P n.C q ce g c 0 _ (HRb.out.ext hq) (HPb.out.dsk.ext hq)).mono ?_
    rintro e We ⟨rfl, hxe⟩
    replace hq := hq.trans hxe
    replace hal := hal.ext hxe
    refine hK _ _ hq ?_
    clear hK K hxe
    (try simp only [Act.put, setZa, setZ0, setZ1])
    iterate 3 ((first
     | refine extT_move rfl rfl (by rfl) (by rfl) ?_
     | refine extT_assign rfl rfl (by rfl) (by rfl) ?_
     | refine extT_pick_t rfl rfl (by rfl) (by rfl) (by rfl) ?_
     | refine extT_pick_f rfl rfl (by rfl) (by rfl) (by rfl) ?_
     | (apply extT_take rfl (by rfl)
        · intro w' hS
          have hSc := hS.cells
          (try simp only [World.size_drew, World.cell?_drew] at hSc)
          go_simp
          (try simp (disch := omega) only [i64_id])
          try rfl)
     | refine extT_pass rfl (by rfl) ?_); simp only [Act.put, setZa, setZ0, setZ1])
    refine extT_doB rfl (by rfl) (fun K hK => ?_)
    refine wp_of_list rfl ?_
    refine wpList_store_cell 3 _ _ rfl (by rfl) (i := 0) rfl rfl hal (by simp) (by kernel_rfl) rfl ?_
    intro Wf hS
    have HSf := Lib.hid hS.box
    have HQf := Lib.hid (show Ext Wb Wf from hS.bel hq hle)
    refine hK _ _ HQf.out ?_
    clear hK K hS
    (try simp only [Act.put])
    refine extT_nil ?_
    skip
    rotate_left
    go_simp
    have hal := BoxAt.new wc #[.int .i64 0] 3
    have hle := hq.size
    replace hq := hq.trans (Ext.alloc _ (.cells #[.int .i64 0] 3))
    refine hK _ _ hq ?_
    clear hK K
    (try simp only [Act.put, setZa, setZ0, setZ1])
    refine extT_doB rfl (by rfl) (fun K hK => ?_)
    go_simp
    go_at_call 109
    refine (dgeo_any B D P n.C _ (HPb.out.dsk.ext hq)).mono ?_
    rintro e Wd ⟨rfl, hxd⟩
    replace hq := hq.trans hxd
    replace hal := hal.ext hxd
    refine hK _ _ hq ?_
    clear hK K hxd
    (try simp only [Act.put, setZa, setZ0, setZ1])
    iterate 1 ((first
     | refine extT_move rfl rfl (by rfl) (by rfl) ?_
     | refine extT_assign rfl rfl (by rfl) (by rfl) ?_
     | refine extT_pick_t rfl rfl (by rfl) (by rfl) (by rfl) ?_
     | refine extT_pick_f rfl rfl (by rfl) (by rfl) (by rfl) ?_
     | (apply extT_take rfl (by rfl)
        · intro w' hS
          have hSc := hS.cells
          (try simp only [World.size_drew, World.cell?_drew] at hSc)
          go_simp
          (try simp (disch := omega) only [i64_id, u64_id, ↓IntWalk.iteOmega, Int.tdiv_eq_ediv_of_nonneg, Int.tmod_eq_emod_of_nonneg])
          try rfl)
     | refine extT_pass rfl (by rfl) ?_); simp only [Act.put, setZa, setZ0, setZ1])
    refine extT_doB rfl (by rfl) (fun K hK => ?_)
    go_simp
    go_at_call 168
    refine (vsize_any B R D P n.C q ce g c 0 _ (HRb.out.ext hq) (HPb.out.dsk.ext hq)).mono ?_
    rintro e We ⟨rfl, hxe⟩
    replace hq := hq.trans hxe
    replace hal := hal.ext hxe
    refine hK _ _ hq ?_
    clear hK K hxe
    (try simp only [Act.put, setZa, setZ0, setZ1])
    iterate 3 ((first
     | refine extT_move rfl rfl (by rfl) (by rfl) ?_
     | refine extT_assign rfl rfl (by rfl) (by rfl) ?_
     | refine extT_pick_t rfl rfl (by rfl) (by rfl) (by rfl) ?_
     | refine extT_pick_f rfl rfl (by rfl) (by rfl) (by rfl) ?_
     | (apply extT_take rfl (by rfl)
        · intro w' hS
          have hSc := hS.cells
          (try simp only [World.size_drew, World.cell?_drew] at hSc)
          go_simp
          (try simp (disch := omega) only [i64_id])
          try rfl)
     | refine extT_pass rfl (by rfl) ?_); simp only [Act.put, setZa, setZ0, setZ1])
    refine extT_doB rfl (by rfl) (fun K hK => ?_)
    refine wp_of_list rfl ?_
    refine wpList_store_cell 3 _ _ rfl (by rfl) (i := 0) rfl rfl hal (by simp) (by kernel_rfl) rfl ?_
    intro Wf hS
    have HSf := Lib.hid hS.box
    have HQf := Lib.hid (show Ext Wb Wf from hS.bel hq hle)
    refine hK _ _ HQf.out ?_
    clear hK K hS
    (try simp only [Act.put])
    refine extT_nil ?_
    skip
    rotate_left
  all_goals
    have hBf : B ≤ Wf.heap.size := Nat.le_trans hBw (Nat.le_trans HXb.out.size HQf.out.size)
    have HRf := Lib.hid (HRb.out.ext HQf.out)
    have HBf := Lib.hid (HBb.out.ext HQf.out)
    have HEf := Lib.hid (HEb.out.ext HQf.out)
    have HPf := Lib.hid (HPb.out.ext HQf.out)
    have H0f := Lib.hid (H0b.out.ext HQf.out)
    have H1f := Lib.hid (H1b.out.ext HQf.out)
    have HGf := Lib.hid (HGb.out.ext HQf.out)
    have HVf := Lib.hid (OwnB.ext0 HVb.out HQf.out)
    clear b0 m0 r0 r3 mr u0 mg hal hle hq hxc
    go_wp2_with first | (go_at_call 58; go_loud (refine (retry_any 180 (enters_of Tryz.func180 (by kernel_rfl) rfl) _ _ (fun w' => Pw B w' D P n xL ∧ Chg B TTd Wf w') (vapp1_any B R D P q ce g c _ _ _ _ 0 n (.slice va 37 vc) Wf HRf.out HPf.out hBf H0f.out HSf.out HGf.out HVf.out)).mono ?_); rintro e Wg ⟨rfl, hpw, hcg⟩; have HPW := Lib.hid hpw; have HCG := Lib.hid hcg; have HRg := Lib.hid (HRf.out.chg hcg (by decide)); have HEg := Lib.hid (HEf.out.chg hcg (by decide)); have HBg := Lib.hid (HBf.out.chg hcg (by decide)); have H0g := Lib.hid (H0f.out.chg hcg (by decide)); have H1g := Lib.hid (H1f.out.chg hcg (by decide)); have HAg := Lib.hid (HSf.out.chg hcg (by decide)); have b0 := H0g.out.cell 0 (v := .pointer (some ⟨R, 0, none⟩)) rfl; have m0 := H0g.out.lt; have r4 := HRg.out.cell 4 (v := .int .u64 0) rfl; have mr := HRg.out.lt; clear hpw hcg) | (refine wpList_store_cell 22 _ _ rfl (by rfl) (i := 4) rfl rfl HRg.out (by simp) (by kernel_rfl) rfl ?_; intro Wh hS; have hch : Chg B [144] Wg Wh := (Chg.refl _ _ _).stored HRg.out hS (by simp) hBR; have HRh : Hid (BoxAt Wh R (dvC D q ce g c 1) 144) := Lib.hid hS.box; have HCH := Lib.hid hch; have HEh := Lib.hid (HEg.out.chg hch (by decide)); have HBh := Lib.hid (HBg.out.chg hch (by decide)); have H0h := Lib.hid (H0g.out.chg hch (by decide)); have H1h := Lib.hid (H1g.out.chg hch (by decide)); have HAh := Lib.hid (HAg.out.chg hch (by decide)); have HPWh := Lib.hid (HPW.out.chg hch (by decide)); have b0 := H0h.out.cell 0 (v := .pointer (some ⟨R, 0, none⟩)) rfl; have m0 := H0h.out.lt; have y1 := H1h.out.cell 1 (v := .int .i64 1) rfl; have my := H1h.out.lt; clear hS hch b0 m0 r4 mr; have b0 := H0h.out.cell 0 (v := .pointer (some ⟨R, 0, none⟩)) rfl; have m0 := H0h.out.lt) | (go_at_call 174; go_loud (refine (vunlink_any B R D q ce g c 1 _ HRh.out HEh.out hBq (Nat.le_trans hBf (Nat.le_trans HCG.out.size HCH.out.size))).mono ?_); rintro e Wi ⟨rfl, hei, hci⟩; have HEi := Lib.hid hei; have HCI := Lib.hid hci; have HRi := Lib.hid (HRh.out.chg hci (by decide)); have HBi := Lib.hid (HBh.out.chg hci (by decide)); have H0i := Lib.hid (H0h.out.chg hci (by decide)); have H1i := Lib.hid (H1h.out.chg hci (by decide)); have HAi := Lib.hid (HAh.out.chg hci (by decide)); have HPWi := Lib.hid (HPWh.out.chg hci (by decide)); clear hei hci b0 m0 y1 my; have b0 := H0i.out.cell 0 (v := .pointer (some ⟨R, 0, none⟩)) rfl; have m0 := H0i.out.lt; have r3 := HRi.out.cell 3 (v := .slice (some ⟨g, 0, none⟩) 5 c) rfl; have r4 := HRi.out.cell 4 (v := .int .u64 1) rfl; have mr := HRi.out.lt)
    refine wp_region_exq [(0, true), (1, true), (2, true), (3, true), (4, true), (5, true), (7, true), (8, true), (9, true), (10, true), (11, true), (6, false), (12, false), (13, true), (14, true), (15, true), (16, true), (17, true), (18, false)] (by kernel_rfl) (by kernel_rfl) ?_
    iterate 11 ((first
     | refine exq_move rfl rfl (by rfl) (by rfl) ?_
     | refine exq_assign rfl rfl (by rfl) (by rfl) ?_
     | refine exq_pick_t rfl rfl (by rfl) (by rfl) (by rfl) ?_
     | refine exq_pick_f rfl rfl (by rfl) (by rfl) (by rfl) ?_
     | (apply exq_take rfl (by rfl)
        · intro w' hS
          have hSc := hS.cells
          (try simp only [World.size_drew, World.cell?_drew] at hSc)
          go_simp
          (try simp (disch := omega) only [i64_id, u64_id, ↓IntWalk.iteOmega, Int.tdiv_eq_ediv_of_nonneg, Int.tmod_eq_emod_of_nonneg])
          try rfl)
     | refine exq_pass rfl (by rfl) ?_); simp only [Act.put, setZa, setZ0, setZ1])
    (refine exq_do rfl (by rfl) (fun K hK => ?_)
     go_simp
     go_at_call 168
     refine (vsize_any B R D P n.C q ce g c 1 _ (HRi.out.ext (by first | exact Ext.refl _ | exact Ext.drew _)) (HPWi.out.dsk.ext (by first | exact Ext.refl _ | exact Ext.drew _))).mono ?_
     rintro e Wj ⟨rfl, hxj⟩
     have HXJ : Hid (Ext Wi Wj) := Lib.hid (Ext.trans (by first | exact Ext.refl _ | exact Ext.drew _) hxj)
     refine hK _ _ (by first | exact hxj | exact HXJ.out) ?_
     clear hK K hxj
     (try simp only [Act.put, setZa, setZ0, setZ1]))
    (refine exq_do rfl (by rfl) (fun K hK => ?_)
     go_simp
     go_at_call 182
     refine (bappend_any g c _ (HBi.out.ext HXJ.out)).mono ?_
     rintro e Wk ⟨g', c', rfl, hxk⟩
     have HXK := Lib.hid (HXJ.out.trans hxk)
     refine hK _ _ hxk ?_
     clear hK K hxk
     (try simp only [Act.put, setZa, setZ0, setZ1]))
    iterate 5 ((first
     | refine exq_move rfl rfl (by rfl) (by rfl) ?_
     | refine exq_assign rfl rfl (by rfl) (by rfl) ?_
     | refine exq_pick_t rfl rfl (by rfl) (by rfl) (by rfl) ?_
     | refine exq_pick_f rfl rfl (by rfl) (by rfl) (by rfl) ?_
     | (apply exq_take rfl (by rfl)
        · intro w' hS
          have hSc := hS.cells
          (try simp only [World.size_drew, World.cell?_drew] at hSc)
          go_simp
          (try simp (disch := omega) only [i64_id, u64_id, ↓IntWalk.iteOmega, Int.tdiv_eq_ediv_of_nonneg, Int.tmod_eq_emod_of_nonneg])
          try rfl)
     | refine exq_pass rfl (by rfl) ?_); simp only [Act.put, setZa, setZ0, setZ1])
    (refine exq_store rfl (by rfl) (by kernel_rfl) (fun K hK => ?_)
     refine wp_of_list rfl ?_
     refine wpList_store_cell 142 _ _ rfl (by rfl) (i := 3) rfl rfl (HRi.out.ext HXK.out) (by simp) (by kernel_rfl) rfl ?_
     intro Wl hS
     have HSl : Hid (Stored Wk Wl R (dvC D q ce g' c' 1) 144) := Lib.hid hS
     refine hK _ _ ?_
     clear hK K hS
     (try simp only [Act.put]))
    refine exq_nil ?_
    have hcl : Chg B [144] Wk Wl := (Chg.refl _ _ _).stored (HRi.out.ext HXK.out) HSl.out (by simp) hBR
    have HCL := Lib.hid hcl
    have HEl := Lib.hid ((HEi.out.ext HXK.out).chg hcl (by decide))
    have H0l := Lib.hid ((H0i.out.ext HXK.out).chg hcl (by decide))
    have H1l := Lib.hid ((H1i.out.ext HXK.out).chg hcl (by decide))
    have HAl := Lib.hid ((HAi.out.ext HXK.out).chg hcl (by decide))
    have HPWl := Lib.hid ((HPWi.out.ext HXK.out).chg hcl (by decide))
    obtain ⟨EA, hea1, hea2⟩ := HEl.out
    have HEA := Lib.hid hea1
    have HEA2 := Lib.hid hea2
    clear hcl b0 m0 r3 r4 mr hea1 hea2
    have b0 := H0l.out.cell 0 (v := .pointer (some ⟨R, 0, none⟩)) rfl
    have m0 := H0l.out.lt
    have r2 := HSl.out.box.cell 2 (v := .slice (some ⟨q, 0, none⟩) 4 ce) rfl
    have mr := HSl.out.box.lt
    have y0 := H1l.out.cell 0 (v := .int .i64 1) rfl
    have y1 := H1l.out.cell 1 (v := .int .i64 1) rfl
    have y2 := H1l.out.cell 2 (v := .int .u64 5) rfl
    have my := H1l.out.lt
    have z0 := HAl.out.cell 0 (v := .int .i64 60) rfl
    have mz := HAl.out.lt
    go_wp2_with fail
    refine wp_region_exq [(0, true), (1, true), (2, true), (3, true), (4, true), (5, true), (6, true), (7, true), (8, true), (9, true), (10, true), (11, true), (12, true), (13, false)] (by kernel_rfl) (by kernel_rfl) ?_
    iterate 13 ((first
     | refine exq_move rfl rfl (by rfl) (by rfl) ?_
     | refine exq_assign rfl rfl (by rfl) (by rfl) ?_
     | refine exq_pick_t rfl rfl (by rfl) (by rfl) (by rfl) ?_
     | refine exq_pick_f rfl rfl (by rfl) (by rfl) (by rfl) ?_
     | (apply exq_take rfl (by rfl)
        · intro w' hS
          have hSc := hS.cells
          (try simp only [World.size_drew, World.cell?_drew] at hSc)
          go_simp
          (try simp (disch := omega) only [i64_id, u64_id, ↓IntWalk.iteOmega, Int.tdiv_eq_ediv_of_nonneg, Int.tmod_eq_emod_of_nonneg])
          try rfl)
     | refine exq_pass rfl (by rfl) ?_); simp only [Act.put, setZa, setZ0, setZ1])
    (refine exq_store rfl (by rfl) (by kernel_rfl) (fun K hK => ?_)
     refine wp_of_list rfl ?_
     refine wpList_store_part 154 _ _ rfl (by rfl) (i := 3) (cells := #[.int .i64 1, .int .u64 5, .int .i64 60]) rfl rfl (HEA.out.ext (Ext.drew _)) (by have := ent_size HEA2.out; simp; omega) (by kernel_rfl) (by simp [Value.oneCell']) ?_
     intro Wm hS
     have HSm := Lib.hid hS
     refine hK _ _ ?_
     clear hK K hS
     (try simp only [Act.put]))
    refine exq_nil ?_
    go_wp2_with fail
    go_ret
    have hcm : Chg B [154] Wl Wm := (Chg.ext (Ext.drew Wl) (by
      have h1 := HCL.out.size
      have h2 := HXK.out.size
      have h3 := HCI.out.size
      have h4 := HCH.out.size
      have h5 := HCG.out.size
      omega)).stored (HEA.out.ext (Ext.drew _)) HSm.out (by simp) hBq
    have hlen := ent_size HEA2.out
    have c1 : Chg B TTd w Wg := (Chg.ext (HXb.out.trans HQf.out) hBw).trans HCG.out
    have c2 : Chg B (144 :: 154 :: TTd) w Wi := (c1.wide (by decide)).trans ((HCH.out.wide (by decide)).trans (HCI.out.wide (by decide)))
    refine ⟨rfl, ⟨g', c', HSl.out.box.chg hcm (by decide)⟩, ⟨_, HSm.out.box, ?_, ?_, ?_⟩, HPWl.out.chg hcm (by decide), (c2.more HXK.out hBw).trans ((HCL.out.wide (by decide)).trans (hcm.wide (by decide)))⟩
    · exact putL_get0 (by omega)
    · simp only [putL]
      rw [Array.getElem?_setIfInBounds, if_neg (by decide), Array.getElem?_setIfInBounds]
      simp
      omega
    · simp only [putL]
      rw [Array.getElem?_setIfInBounds]
      simp
      omega
end Go.Proofs.YtjabgpejmnpamaaGreatDoor

namespace Go.Proofs.YtjabgpejmnpamaaGreatDoor
open Go.RowKit Go.Shelf
set_option maxRecDepth 100000
structure Wp (B R D P q ce : Nat) (n : Cn) (w w' : World) : Prop where
  box : ∃ g' c', BoxAt w' R (dvC D q ce g' c' 1) 144
  ent : ∃ EA, BoxAt w' q EA 154 ∧ EA[3]? = some (.int .i64 1) ∧ EA[4]? = some (.int .u64 5) ∧ EA[5]? = some (.int .i64 60)
  dsk : Pw B w' D P n xL
  chg : Chg B (144 :: 154 :: TTd) w w'
set_option maxHeartbeats 4000000 in
theorem vput_any (B R D P q ce g c : Nat) (n : Cn) (w : World) (h : BoxAt w R (dvC D q ce g c 0) 144) (he : Ent w q) (hb : Bnd w g c) (hp : Ph B w D P n []) (hBw : B ≤ w.heap.size) (hBR : B ≤ R) (hBq : B ≤ q) :
    Calls Tryz.prog 63 #[.pointer (some ⟨R, 0, none⟩), xV] w fun e w' => e = .returned (.int .i64 0) ∧ Wp B R D P q ce n w w' := by
  have hx := Ext.alloc w (.cells #[.int .i64 1, .int .i64 1, .int .u64 5, .int .u8 9, .int .u8 0, .int .u8 0, .int .u8 0, .int .u8 0, .int .u8 0, .int .u8 0, .int .u8 0] 151)
  have hxe := BoxAt.new w #[.int .i64 1, .int .i64 1, .int .u64 5, .int .u8 9, .int .u8 0, .int .u8 0, .int .u8 0, .int .u8 0, .int .u8 0, .int .u8 0, .int .u8 0] 151
  have HX := Lib.hid hx
  have HXE := Lib.hid hxe
  have HR := Lib.hid (h.ext hx)
  have HE := Lib.hid (he.ext hx)
  have HB := Lib.hid (hb.ext hx)
  have HP := Lib.hid (hp.ext hx)
  have x1 := hxe.cell 1 (v := .int .i64 1) rfl
  have x2 := hxe.cell 2 (v := .int .u64 5) rfl
  have mx := hxe.lt
  obtain ⟨EA, hea1, hea2⟩ := he
  have y2 := (h.ext hx).cell 2 (v := .slice (some ⟨q, 0, none⟩) 4 ce) rfl
  have my := (h.ext hx).lt
  have y4 := (hea1.ext hx).cell 4 (v := .int .u64 0) (ent_get hea2 4 (by decide))
  have mq := (hea1.ext hx).lt
  clear h hb hp hx hxe hea1 hea2
  go_enter Tryz.func63, Tryz.ntmps63
  go_wp2_with first | (go_at_call 64; refine (vstate_any R D q ce g c 0 _ HR.out).mono ?_; rintro e w' ⟨rfl, rfl⟩) | (go_at_call 65; refine (vhas_any R D q ce g c 0 _ HR.out).mono ?_; rintro e w' ⟨rfl, rfl⟩)
  generalize (w.alloc (.cells #[.int .i64 1, .int .i64 1, .int .u64 5, .int .u8 9, .int .u8 0, .int .u8 0, .int .u8 0, .int .u8 0, .int .u8 0, .int .u8 0, .int .u8 0] 151)) = W0 at *
  obtain ⟨gx, hgx⟩ : ∃ gx, w.heap.size = gx := ⟨_, rfl⟩
  rw [hgx] at HXE x1 x2 mx ⊢
  have HGX := Lib.hid hgx
  clear hgx
  refine wp_region_ext [(0, true), (1, true), (2, true), (3, true), (4, true), (5, true), (6, true), (7, true), (8, true), (9, true), (10, true), (11, true), (12, true), (13, true), (14, true), (15, true), (16, true), (17, true)] (by kernel_rfl) (by kernel_rfl) ?_
  iterate 18 ((first
   | refine ext_move rfl rfl (by rfl) (by rfl) ?_
   | refine ext_assign rfl rfl (by rfl) (by rfl) ?_
   | refine ext_pick_t rfl rfl (by rfl) (by rfl) (by rfl) ?_
   | refine ext_pick_f rfl rfl (by rfl) (by rfl) (by rfl) ?_
   | (apply ext_take rfl (by rfl)
      · intro w' hS
        have hSc := hS.cells
        (try simp only [World.size_drew, World.cell?_drew] at hSc)
        go_simp
        (try simp (disch := omega) only [i64_id, u64_id, ↓IntWalk.iteOmega, Int.tdiv_eq_ediv_of_nonneg, Int.tmod_eq_emod_of_nonneg])
        try rfl)
   | refine ext_pass rfl (by rfl) ?_); simp only [Act.put, setZa, setZ0, setZ1])
  refine ext_nil ?_
  have HXd := Lib.hid (HX.out.trans (Ext.drew _))
  have HXEd := Lib.hid (HXE.out.ext (Ext.drew _))
  have HRd := Lib.hid (HR.out.ext (Ext.drew _))
  have HEd := Lib.hid (HE.out.ext (Ext.drew _))
  have HBd := Lib.hid (HB.out.ext (Ext.drew _))
  have HPd := Lib.hid (HP.out.ext (Ext.drew _))
  clear HX HXE HR HE HB HP x1 x2 mx y2 my y4 mq
  generalize W0.drew = W at *
  have r3 := HRd.out.cell 3 (v := .slice (some ⟨g, 0, none⟩) 5 c) rfl
  have mr := HRd.out.lt
  go_wp2_with fail
  refine wp_loop_rounds 1 ?_
  rw [rounds_succ]
  go_wp2_with first | (go_at_call 116; refine (free_any g c _ HBd.out).mono ?_; rintro e W2 ⟨rfl, hx2⟩; have HX2 := Lib.hid hx2; have h1 := HXEd.out.ext hx2; have x0 := h1.cell 0 (v := .int .i64 1) rfl; have x1 := h1.cell 1 (v := .int .i64 1) rfl; have x2 := h1.cell 2 (v := .int .u64 5) rfl; have x3 := h1.cell 3 (v := .int .u8 9) rfl; have x4 := h1.cell 4 (v := .int .u8 0) rfl; have x5 := h1.cell 5 (v := .int .u8 0) rfl; have x6 := h1.cell 6 (v := .int .u8 0) rfl; have x7 := h1.cell 7 (v := .int .u8 0) rfl; have x8 := h1.cell 8 (v := .int .u8 0) rfl; have x9 := h1.cell 9 (v := .int .u8 0) rfl; have x10 := h1.cell 10 (v := .int .u8 0) rfl; have mx := h1.lt; clear hx2 h1 r3 mr) | (go_at_call 119; go_loud (refine (vapp_any B R D P q ce g c n _ (HRd.out.ext HX2.out) (HEd.out.ext HX2.out) (HBd.out.ext HX2.out) (HPd.out.ext HX2.out) (Nat.le_trans hBw (Nat.le_trans HXd.out.size HX2.out.size)) hBR hBq).mono ?_); rintro e W3 ⟨rfl, h1, h2, h3, h4⟩; have HWp : Hid (Wp B R D P q ce n w W3) := Lib.hid ⟨h1, h2, h3, (Chg.ext (HXd.out.trans HX2.out) hBw).trans h4⟩; clear h1 h2 h3 h4)
  go_ret
  exact ⟨rfl, HWp.out⟩
set_option maxHeartbeats 2000000 in
theorem vwrite_any (B R D P q ce g c : Nat) (n : Cn) (w : World) (h : BoxAt w R (dvC D q ce g c 0) 144) (he : Ent w q) (hb : Bnd w g c) (hp : Ph B w D P n []) (hBw : B ≤ w.heap.size) (hBR : B ≤ R) (hBq : B ≤ q) :
    Calls Tryz.prog 26 #[.pointer (some ⟨R, 0, none⟩), .int .i64 1, .int .u64 5, .agg #[.int .u8 9, .int .u8 0, .int .u8 0, .int .u8 0, .int .u8 0, .int .u8 0, .int .u8 0, .int .u8 0]] w fun e w' => e = .returned (.int .i64 0) ∧ Wp B R D P q ce n w w' := by
  have HX := Lib.hid (Ext.alloc w (.cells #[.int .u8 9, .int .u8 0, .int .u8 0, .int .u8 0, .int .u8 0, .int .u8 0, .int .u8 0, .int .u8 0] 76))
  have HXE := Lib.hid (BoxAt.new w #[.int .u8 9, .int .u8 0, .int .u8 0, .int .u8 0, .int .u8 0, .int .u8 0, .int .u8 0, .int .u8 0] 76)
  have HR := Lib.hid (h.ext HX.out)
  have HE := Lib.hid (he.ext HX.out)
  have HB := Lib.hid (hb.ext HX.out)
  have HP := Lib.hid (hp.ext HX.out)
  clear h he hb hp
  go_enter Tryz.func26, Tryz.ntmps26
  go_wp2_with (go_at_call 63; go_loud (refine (vput_any B R D P q ce g c n _ HR.out HE.out HB.out HP.out (Nat.le_trans hBw HX.out.size) hBR hBq).mono ?_); rintro e W3 ⟨rfl, h1⟩; have HWp : Hid (Wp B R D P q ce n w W3) := Lib.hid ⟨h1.box, h1.ent, h1.dsk, (Chg.ext HX.out hBw).trans h1.chg⟩; clear h1)
  go_ret
  exact ⟨rfl, HWp.out⟩
end Go.Proofs.YtjabgpejmnpamaaGreatDoor

namespace Go.Proofs.YtjabgpejmnpamaaGreatDoor
open Go.RowKit Go.Shelf
set_option maxRecDepth 100000
theorem results_tct {P : Program} {fn : Func} {p a b : Tmp} {ty : TypeId} (h : fn.results = #[.tmp a, .cell p ty, .tmp b]) (tmps : Array Value) (w : World) {g : Nat} {v : Value}
    (hp : tmps.getD p undef = .pointer (some ⟨g, 0, none⟩)) (hl : (loadVar ty ⟨g, 0, none⟩).run P w = .ok v w) :
    (results fn tmps).run P w = .ok (.tuple #[tmps.getD a undef, v, tmps.getD b undef]) w := by
  have hp' : tmps[p]?.getD undef = .pointer (some ⟨g, 0, none⟩) := by simpa using hp
  simp [results, h, hp', asAddr, hl]
set_option maxHeartbeats 4000000 in
theorem vsec1_any (B R D P q ce g c gR gA gO : Nat) (n : Cn) (x0 : Value) (w : World) (h : BoxAt w R (dvC D q ce g c 1) 144) (hp : Pw B w D P n xL) (hBw : B ≤ w.heap.size) (hR : BoxAt w gR #[.pointer (some ⟨R, 0, none⟩)] 71) (hA : BoxAt w gA #[.int .i64 60] 3) (hO : BoxAt w gO #[x0] 47) (hgO : B ≤ gO) :
    Calls Tryz.prog 183 #[.pointer (some ⟨gR, 0, none⟩), .pointer (some ⟨gA, 0, none⟩), .pointer (some ⟨gO, 0, none⟩)] w fun e w' => e = .returned (.int .i64 0) ∧ Pw B w' D P n xL ∧ (∃ v' bb', BoxAt w' gO #[v'] 47 ∧ OwnB w' bb' v' xL) ∧ Chx B TTd gO w w' := by
  have HP := Lib.hid hp
  have HO := Lib.hid hO
  have a0 := hR.cell 0 (v := .pointer (some ⟨R, 0, none⟩)) rfl
  have a1 := hA.cell 0 (v := .int .i64 60) rfl
  have a3 := h.cell 0 (v := .pointer (some ⟨D, 0, none⟩)) rfl
  have a4 := h.cell 1 (v := .int .u64 0) rfl
  have l0 := hR.lt
  have l1 := hA.lt
  have l3 := h.lt
  clear h hp hR hA hO
  go_enter Tryz.func183, Tryz.ntmps183
  go_wp2_with fail
  refine wp_region_exq [(0, true), (1, true), (2, true), (3, true), (4, true), (5, true), (6, true), (7, true), (8, true), (9, false), (10, true), (11, true), (12, true), (13, false), (14, true)] (by kernel_rfl) (by kernel_rfl) ?_
  iterate 9 ((first
   | refine exq_move rfl rfl (by rfl) (by rfl) ?_
   | refine exq_assign rfl rfl (by rfl) (by rfl) ?_
   | refine exq_pick_t rfl rfl (by rfl) (by rfl) (by rfl) ?_
   | refine exq_pick_f rfl rfl (by rfl) (by rfl) (by rfl) ?_
   | (apply exq_take rfl (by rfl)
      · intro w' hS
        have hSc := hS.cells
        (try simp only [World.size_drew, World.cell?_drew] at hSc)
        go_simp
        (try simp (disch := omega) only [i64_id, u64_id, ↓IntWalk.iteOmega, Int.tdiv_eq_ediv_of_nonneg, Int.tmod_eq_emod_of_nonneg])
        try rfl)
   | refine exq_pass rfl (by rfl) ?_); simp only [Act.put, setZa, setZ0, setZ1])
  (refine exq_store rfl (by rfl) (by kernel_rfl) (fun K hK => ?_)
   go_simp
   go_at_call 184
   refine (dread_any B D P n xL (by rw [xL_len]; decide) _ (HP.out.ext (by first | exact Ext.refl _ | exact Ext.drew _)) (by first | exact hBw | exact Nat.le_trans hBw (Ext.drew _).size)).mono ?_
   rintro e W1 ⟨v', bb', rfl, h1, h2, h3⟩
   obtain ⟨va, vc, rfl⟩ := own_shape h2
   rw [xL_len] at h2 ⊢
   have H1 := Lib.hid h1
   have H2 := Lib.hid h2
   have H3 : Hid (Chg B TTd w W1) := Lib.hid ((Chg.ext (by first | exact Ext.drew _ | exact Ext.refl _) hBw).trans h3)
   have HO1 := Lib.hid (HO.out.chg H3.out (by decide))
   refine hK _ _ ?_
   clear hK K h1 h2 h3
   (try simp only [Act.put, setZa, setZ0, setZ1]))
  iterate 3 ((first
   | refine exq_move rfl rfl (by rfl) (by rfl) ?_
   | refine exq_assign rfl rfl (by rfl) (by rfl) ?_
   | refine exq_pick_t rfl rfl (by rfl) (by rfl) (by rfl) ?_
   | refine exq_pick_f rfl rfl (by rfl) (by rfl) (by rfl) ?_
   | (apply exq_take rfl (by rfl)
      · intro w' hS
        have hSc := hS.cells
        (try simp only [World.size_drew, World.cell?_drew] at hSc)
        go_simp
        (try simp (disch := omega) only [i64_id, u64_id, ↓IntWalk.iteOmega, Int.tdiv_eq_ediv_of_nonneg, Int.tmod_eq_emod_of_nonneg])
        try rfl)
   | refine exq_pass rfl (by rfl) ?_); simp only [Act.put, setZa, setZ0, setZ1])
  (refine exq_store rfl (by rfl) (by kernel_rfl) (fun K hK => ?_)
   refine wp_of_list rfl ?_
   refine wpList_store_cell 47 _ _ rfl (by rfl) (i := 0) rfl rfl HO1.out (by simp) (by kernel_rfl) rfl ?_
   intro W2 hS
   have HS : Hid (Stored W1 W2 gO #[.slice va 37 vc] 47) := Lib.hid hS
   refine hK _ _ ?_
   clear hK K hS
   (try simp only [Act.put]))
  iterate 1 ((first
   | refine exq_move rfl rfl (by rfl) (by rfl) ?_
   | refine exq_assign rfl rfl (by rfl) (by rfl) ?_
   | refine exq_pick_t rfl rfl (by rfl) (by rfl) (by rfl) ?_
   | refine exq_pick_f rfl rfl (by rfl) (by rfl) (by rfl) ?_
   | (apply exq_take rfl (by rfl)
      · intro w' hS
        have hSc := hS.cells
        (try simp only [World.size_drew, World.cell?_drew] at hSc)
        go_simp
        (try simp (disch := omega) only [i64_id, u64_id, ↓IntWalk.iteOmega, Int.tdiv_eq_ediv_of_nonneg, Int.tmod_eq_emod_of_nonneg])
        try rfl)
   | refine exq_pass rfl (by rfl) ?_); simp only [Act.put, setZa, setZ0, setZ1])
  refine exq_nil ?_
  go_wp2_with fail
  go_ret
  have hc : Chg B [47] W1 W2 := (Chg.refl _ _ _).stored HO1.out HS.out (by simp) hgO
  exact ⟨rfl, H1.out.chg hc (by decide), ⟨_, bb', HS.out.box, ownsRow_chg hc H2.out (by decide)⟩, (H3.out.chx gO).trans (HS.out.chx hgO)⟩
abbrev scW (w : World) (R : Nat) : World := ((w.alloc (.cells #[.pointer (some ⟨R, 0, none⟩)] 71)).alloc (.cells #[.int .i64 60] 3)).alloc (.cells #[.slice none 0 0] 47)
theorem scW_ext (w : World) (R : Nat) : Ext w (scW w R) := ((Ext.alloc _ _).trans (Ext.alloc _ _)).trans (Ext.alloc _ _)
theorem scW_0 (w : World) (R : Nat) : BoxAt (scW w R) w.heap.size #[.pointer (some ⟨R, 0, none⟩)] 71 := (BoxAt.new w _ _).ext ((Ext.alloc _ _).trans (Ext.alloc _ _))
theorem scW_1 (w : World) (R : Nat) : BoxAt (scW w R) (w.heap.size + 1) #[.int .i64 60] 3 := by
  have h := (BoxAt.new (w.alloc (.cells #[.pointer (some ⟨R, 0, none⟩)] 71)) #[.int .i64 60] 3).ext (Ext.alloc _ (.cells #[.slice none 0 0] 47))
  rwa [World.size_alloc] at h
theorem scW_2 (w : World) (R : Nat) : BoxAt (scW w R) (w.heap.size + 2) #[.slice none 0 0] 47 := by
  have h := BoxAt.new ((w.alloc (.cells #[.pointer (some ⟨R, 0, none⟩)] 71)).alloc (.cells #[.int .i64 60] 3)) #[.slice none 0 0] 47
  rwa [World.size_alloc, World.size_alloc] at h
set_option maxHeartbeats 4000000 in
theorem vsec_any (B R D P q ce g c : Nat) (n : Cn) (w : World) (h : BoxAt w R (dvC D q ce g c 1) 144) (hp : Pw B w D P n xL) (hBw : B ≤ w.heap.size) :
    Calls Tryz.prog 120 #[.pointer (some ⟨R, 0, none⟩), .int .i64 60] w fun e w' => ∃ va vc bb', e = .returned (.tuple #[.slice va 37 vc, .int .i64 0]) ∧ Pw B w' D P n xL ∧ OwnB w' bb' (.slice va 37 vc) xL ∧ Chg B TTd w w' := by
  have HX := Lib.hid (scW_ext w R)
  have HP := Lib.hid (hp.ext HX.out)
  have HR := Lib.hid (h.ext HX.out)
  clear h hp
  go_enter Tryz.func120, Tryz.ntmps120
  go_wp2_with (go_at_call 58; go_loud (refine (retry_any 183 (enters_of Tryz.func183 (by kernel_rfl) rfl) _ _ (fun w' => Pw B w' D P n xL ∧ (∃ v' bb', BoxAt w' (w.heap.size + 2) #[v'] 47 ∧ OwnB w' bb' v' xL) ∧ Chx B TTd (w.heap.size + 2) (scW w R) w') (vsec1_any B R D P q ce g c w.heap.size (w.heap.size + 1) (w.heap.size + 2) n (.slice none 0 0) _ HR.out HP.out (Nat.le_trans hBw HX.out.size) (scW_0 w R) (scW_1 w R) (scW_2 w R) (by omega))).mono ?_); rintro e W3 ⟨rfl, hR1, ⟨v', bb', hR2, hR3⟩, hR4⟩; obtain ⟨va, vc, rfl⟩ := own_shape hR3; rw [xL_len] at hR2 hR3; have HR1 := Lib.hid hR1; have HR3 := Lib.hid hR3; have HR4 := Lib.hid hR4; have d0 := hR2.cell 0 rfl; have ld := hR2.lt; clear hR1 hR2 hR3 hR4)
  go_ret2
  exact ⟨va, vc, bb', rfl, HR1.out, HR3.out, Chx.fresh (Chg.ext HX.out hBw) HR4.out (by omega)⟩
end Go.Proofs.YtjabgpejmnpamaaGreatDoor

namespace Go.Proofs.YtjabgpejmnpamaaGreatDoor
open Go.RowKit Go.Shelf
set_option maxRecDepth 100000
abbrev e0C : Array Value := #[.int .i64 0, .int .i64 0, .int .u64 0, .int .u8 0, .int .u8 0, .int .u8 0, .int .u8 0, .int .u8 0, .int .u8 0, .int .u8 0, .int .u8 0]
abbrev b8C : Array Value := #[.int .u8 9, .int .u8 0, .int .u8 0, .int .u8 0, .int .u8 0, .int .u8 0, .int .u8 0, .int .u8 0]
def Ent1 (w : World) (q : Nat) : Prop := ∃ EA, BoxAt w q EA 154 ∧ EA[3]? = some (.int .i64 1) ∧ EA[4]? = some (.int .u64 5) ∧ EA[5]? = some (.int .i64 60)
theorem Ent1.ext {w w' : World} {q : Nat} (h : Ent1 w q) (e : Ext w w') : Ent1 w' q := by
  obtain ⟨EA, h1, h2⟩ := h
  exact ⟨EA, h1.ext e, h2⟩
set_option maxHeartbeats 8000000 in
theorem vfetch_any (B R D P q ce g c : Nat) (n : Cn) (w : World) (h : BoxAt w R (dvC D q ce g c 1) 144) (he : Ent1 w q) (hp : Pw B w D P n xL) (hBw : B ≤ w.heap.size) :
    Calls Tryz.prog 66 #[.pointer (some ⟨R, 0, none⟩), .int .i64 1] w fun e w' => e = .returned (.tuple #[xV, .int .i64 0]) ∧ Pw B w' D P n xL ∧ Chg B TTd w w' := by
  have HX := Lib.hid (Ext.alloc w (.cells e0C 151))
  have HB0 := Lib.hid (BoxAt.new w e0C 151)
  have HR := Lib.hid (h.ext HX.out)
  have HP := Lib.hid (hp.ext HX.out)
  obtain ⟨EA, hea, e3, e4, e5⟩ := he
  have r2 := HR.out.cell 2 (v := .slice (some ⟨q, 0, none⟩) 4 ce) rfl
  have mr := HR.out.lt
  have y3 := (hea.ext HX.out).cell 3 e3
  have y4 := (hea.ext HX.out).cell 4 e4
  have y5 := (hea.ext HX.out).cell 5 e5
  have mq := (hea.ext HX.out).lt
  have hn0 := BoxAt.new (w.alloc (.cells e0C 151)) #[.int .i64 0, .int .u64 0, .int .i64 0] 154
  rw [World.size_alloc] at hn0
  have HN0 := Lib.hid hn0
  clear h hp hea e3 e4 e5 hn0
  go_enter Tryz.func66, Tryz.ntmps66
  go_wp2_with first | (refine wpList_store_box 154 _ _ rfl (by rfl) rfl rfl HN0.out rfl (by kernel_rfl) (by simp [Value.oneCell']) ?_; intro W1 hS; have HX1 := Lib.hid (show Ext (w.alloc (.cells e0C 151)) W1 from hS.bel (Ext.alloc _ _) (by simp)); have HN1 : Hid (BoxAt W1 _ #[.int .i64 1, .int .u64 5, .int .i64 60] 154) := Lib.hid hS.box; have a2 := HN1.out.cell 2 (v := .int .i64 60) rfl; have ma := HN1.out.lt; clear hS r2 mr y3 y4 y5 mq) | (go_at_call 120; go_loud (refine (vsec_any B R D P q ce g c n _ (HR.out.ext HX1.out) (HP.out.ext HX1.out) (Nat.le_trans hBw (Nat.le_trans HX.out.size HX1.out.size))).mono ?_); rintro e W2 ⟨va, vc, bb', rfl, hpw, ho, hch⟩; have HPW := Lib.hid hpw; have HO := Lib.hid ho; have HCH := Lib.hid hch; have HN2 := Lib.hid (HN1.out.chg hch (by decide)); have HB2 := Lib.hid ((HB0.out.ext HX1.out).chg hch (by decide)); clear hpw ho hch a2 ma) | (go_at_call 121; go_loud (refine (xdec_any (.slice va 37 vc) _ (OwnB.slice HO.out)).mono ?_); rintro e W3 ⟨rfl, hx3⟩; have HX3 := Lib.hid hx3; have HN3 := Lib.hid (HN2.out.ext hx3); have HB3 := Lib.hid (HB2.out.ext hx3); clear hx3) | (refine wpList_store_box 151 _ _ rfl (by rfl) rfl rfl (BoxAt.new W3 e0C 151) rfl (by kernel_rfl) (by simp [Value.oneCell']) ?_; intro W4 hS; have HX4 := Lib.hid (show Ext W3 W4 from hS.bel (Ext.alloc _ _) (Nat.le_refl _)); have HS4 := Lib.hid hS.box; have HB4 := Lib.hid (HB3.out.ext HX4.out); have n4 := HN3.out.ext HX4.out; have a0 := n4.cell 0 (v := .int .i64 1) rfl; have a1 := n4.cell 1 (v := .int .u64 5) rfl; have ma := n4.lt; have x0 := hS.box.cell 0 (v := .int .i64 1) rfl; have x1 := hS.box.cell 1 (v := .int .i64 1) rfl; have x2 := hS.box.cell 2 (v := .int .u64 5) rfl; have x3 := hS.box.cell 3 (v := .int .u8 9) rfl; have x4 := hS.box.cell 4 (v := .int .u8 0) rfl; have x5 := hS.box.cell 5 (v := .int .u8 0) rfl; have x6 := hS.box.cell 6 (v := .int .u8 0) rfl; have x7 := hS.box.cell 7 (v := .int .u8 0) rfl; have x8 := hS.box.cell 8 (v := .int .u8 0) rfl; have x9 := hS.box.cell 9 (v := .int .u8 0) rfl; have x10 := hS.box.cell 10 (v := .int .u8 0) rfl; have mx := hS.box.lt; clear hS n4) | (refine wpList_store_box 151 _ _ rfl (by rfl) rfl rfl HB4.out rfl (by kernel_rfl) (by simp [Value.oneCell']) ?_; intro W5 hS; have HS5 := Lib.hid hS; clear hS)
  refine bodyPost_ret (results_cell_tmpA rfl _ _ rfl (box_result HS5.out.box Tryz.underlying151 rfl (by kernel_rfl))) rfl ⟨rfl, ?_, ?_⟩
  · have h5 : Chg 0 [151] W4 W5 := (Chg.refl _ _ _).stored HB4.out HS5.out (by simp) (Nat.zero_le _)
    exact ((HPW.out.ext HX3.out).ext HX4.out).chg h5 (by decide)
  · have c2 : Chg B TTd w W2 := (Chg.ext (HX.out.trans HX1.out) hBw).trans HCH.out
    exact ((c2.more HX3.out hBw).more HX4.out hBw).fresh hBw HS5.out (Nat.le_refl _)
abbrev z8C : Array Value := #[.int .u8 0, .int .u8 0, .int .u8 0, .int .u8 0, .int .u8 0, .int .u8 0, .int .u8 0, .int .u8 0]
set_option maxHeartbeats 8000000 in
theorem vread_any (B R D P q ce g c : Nat) (n : Cn) (w : World) (h : BoxAt w R (dvC D q ce g c 1) 144) (he : Ent1 w q) (hp : Pw B w D P n xL) (hBw : B ≤ w.heap.size) :
    Calls Tryz.prog 27 #[.pointer (some ⟨R, 0, none⟩), .int .i64 1] w fun e w' => e = .returned (.tuple #[.int .u64 5, .agg b8C, .int .i64 0]) ∧ Chg B TTd w w' := by
  have HX := Lib.hid (Ext.alloc w (.cells z8C 76))
  have HB0 := Lib.hid (BoxAt.new w z8C 76)
  have HR := Lib.hid (h.ext HX.out)
  have HP := Lib.hid (hp.ext HX.out)
  have HE := Lib.hid (he.ext HX.out)
  obtain ⟨EA, hea, e3, e4, e5⟩ := he
  have r2 := HR.out.cell 2 (v := .slice (some ⟨q, 0, none⟩) 4 ce) rfl
  have mr := HR.out.lt
  have y3 := (hea.ext HX.out).cell 3 e3
  have y5 := (hea.ext HX.out).cell 5 e5
  have mq := (hea.ext HX.out).lt
  clear h hp hea e3 e4 e5
  go_enter Tryz.func27, Tryz.ntmps27
  go_wp2_with first | (go_at_call 64; refine (vstate_any R D q ce g c 1 _ HR.out).mono ?_; rintro e w' ⟨rfl, rfl⟩) | (go_at_call 65; refine (vhas_any R D q ce g c 1 _ HR.out).mono ?_; rintro e w' ⟨rfl, rfl⟩) | (go_at_call 66; go_loud (refine (vfetch_any B R D P q ce g c n _ HR.out HE.out HP.out (Nat.le_trans hBw HX.out.size)).mono ?_); rintro e W2 ⟨rfl, hpw, hch⟩; have HC2 : Hid (Chg B TTd w W2) := Lib.hid ((Chg.ext HX.out hBw).trans hch); have HB2 := Lib.hid (HB0.out.chg hch (by decide)); clear hpw hch r2 mr y3 y5 mq) | (refine wpList_store_box 151 _ _ rfl (by rfl) rfl rfl (BoxAt.new W2 e0C 151) rfl (by kernel_rfl) (by simp [Value.oneCell']) ?_; intro W4 hS; have HX4 := Lib.hid (show Ext W2 W4 from hS.bel (Ext.alloc _ _) (Nat.le_refl _)); have HS4 := Lib.hid hS.box; have HB4 := Lib.hid (HB2.out.ext HX4.out); have x2 := hS.box.cell 2 (v := .int .u64 5) rfl; have x3 := hS.box.cell 3 (v := .int .u8 9) rfl; have x4 := hS.box.cell 4 (v := .int .u8 0) rfl; have x5 := hS.box.cell 5 (v := .int .u8 0) rfl; have x6 := hS.box.cell 6 (v := .int .u8 0) rfl; have x7 := hS.box.cell 7 (v := .int .u8 0) rfl; have x8 := hS.box.cell 8 (v := .int .u8 0) rfl; have x9 := hS.box.cell 9 (v := .int .u8 0) rfl; have x10 := hS.box.cell 10 (v := .int .u8 0) rfl; have mx := hS.box.lt; clear hS)
  refine wp_region_exq [(0, true), (1, true), (2, true), (3, true), (4, true), (5, false), (6, true)] (by kernel_rfl) (by kernel_rfl) ?_
  iterate 5 ((first
   | refine exq_move rfl rfl (by rfl) (by rfl) ?_
   | refine exq_assign rfl rfl (by rfl) (by rfl) ?_
   | refine exq_pick_t rfl rfl (by rfl) (by rfl) (by rfl) ?_
   | refine exq_pick_f rfl rfl (by rfl) (by rfl) (by rfl) ?_
   | (apply exq_take rfl (by rfl)
      · intro w' hS
        have hSc := hS.cells
        (try simp only [World.size_drew, World.cell?_drew] at hSc)
        go_simp
        (try simp (disch := omega) only [i64_id, u64_id, ↓IntWalk.iteOmega, Int.tdiv_eq_ediv_of_nonneg, Int.tmod_eq_emod_of_nonneg])
        try rfl)
   | refine exq_pass rfl (by rfl) ?_); simp only [Act.put, setZa, setZ0, setZ1])
  (refine exq_store rfl (by rfl) (by kernel_rfl) (fun K hK => ?_)
   refine wp_of_list rfl ?_
   refine wpList_store_box 76 _ _ rfl (by rfl) rfl rfl (HB4.out.ext (Ext.drew _)) rfl (by kernel_rfl) (by simp [Value.oneCell']) ?_
   intro W5 hS
   have HS5 := Lib.hid hS
   refine hK _ _ ?_
   clear hK K hS
   (try simp only [Act.put]))
  iterate 1 ((first
   | refine exq_move rfl rfl (by rfl) (by rfl) ?_
   | refine exq_assign rfl rfl (by rfl) (by rfl) ?_
   | refine exq_pick_t rfl rfl (by rfl) (by rfl) (by rfl) ?_
   | refine exq_pick_f rfl rfl (by rfl) (by rfl) (by rfl) ?_
   | (apply exq_take rfl (by rfl)
      · intro w' hS
        have hSc := hS.cells
        (try simp only [World.size_drew, World.cell?_drew] at hSc)
        go_simp
        (try simp (disch := omega) only [i64_id, u64_id, ↓IntWalk.iteOmega, Int.tdiv_eq_ediv_of_nonneg, Int.tmod_eq_emod_of_nonneg])
        try rfl)
   | refine exq_pass rfl (by rfl) ?_); simp only [Act.put, setZa, setZ0, setZ1])
  refine exq_nil ?_
  go_wp2_with fail
  refine bodyPost_ret (results_tct rfl _ _ rfl (box_result HS5.out.box Tryz.underlying76 rfl (by kernel_rfl))) rfl ⟨rfl, ?_⟩
  exact ((HC2.out.more HX4.out hBw).more (Ext.drew _) hBw).fresh hBw HS5.out (Nat.le_refl _)
end Go.Proofs.YtjabgpejmnpamaaGreatDoor

namespace Go.Proofs.YtjabgpejmnpamaaGreatDoor
open Go.RowKit
set_option maxRecDepth 100000 in
set_option maxHeartbeats 4000000 in
theorem valid_any (l : Lab) (dv : Value) (ds : List Bool) (w : World) (hl : ds.length ≤ 100000) (h : SliceAt Value.bool w dv ds) :
    Calls Tryz.prog 30 #[labV l dv] w (CfgEnd w (validL l ds)) := by
  by_cases hhd : (cfgB l.c && labHead l) = true
  · obtain ⟨ad, cap, rfl⟩ := h.shape
    have HS := Lib.hid h
    have hca : cfgB l.c = true := by rw [Bool.and_eq_true] at hhd; exact hhd.1
    have hla : labHead l = true := by rw [Bool.and_eq_true] at hhd; exact hhd.2
    obtain ⟨X, hX⟩ : ∃ X, validL l ds = X := ⟨_, rfl⟩
    have hXe : X = decide ((ds.length : Int) = l.c.d ∧ deadN ds ds.length ≤ 3 ∧ ds.getD l.disk.toNat true = false ∧ 0 ≤ l.blob ∧ l.blob ≤ 1048576) := by rw [← hX]; unfold validL; rw [hhd, Bool.true_and]
    rw [hX]
    have HC := Lib.hid (config_any l.c)
    rw [hca] at HC
    have HDN := Lib.hid fun w' (e : Ext w w') => dead_any l _ ds w' hl (h.ext e)
    unfold labHead at hla
    rw [decide_eq_true_eq] at hla
    clear hX hhd hca h
    obtain ⟨array, disk, gen, prev, ⟨d, ww, t, s, r, b, k, cc, o, a, g⟩, blob, sum, root⟩ := l
    simp only at hla hXe HC
    obtain ⟨h1, h2, h3, h4, h5⟩ := hla
    obtain ⟨dk, rfl⟩ := Int.eq_ofNat_of_zero_le h1
    have e1 : decide ((dk : Int) < 0) = false := by rw [decide_eq_false_iff_not]; omega
    have e2 : decide (d ≤ (dk : Int)) = false := by rw [decide_eq_false_iff_not]; omega
    have e3 : decide (un gen < 1) = false := by rw [decide_eq_false_iff_not]; omega
    have e4 : decide (4294967295 < un gen) = false := by rw [decide_eq_false_iff_not]; omega
    have e5 : decide (un gen ≤ un prev) = false := by rw [decide_eq_false_iff_not]; omega
    rw [Int.toNat_natCast] at hXe
    clear h1 h3 h4 h5
    obtain ⟨n, hn⟩ : ∃ n, ds.length = n := ⟨_, rfl⟩
    obtain ⟨D, hD⟩ : ∃ D, deadN ds ds.length = D := ⟨_, rfl⟩
    have hDn : D ≤ n := by rw [← hD, ← hn]; exact deadN_le _ _
    obtain ⟨y, hy⟩ : ∃ y, ds.getD dk true = y := ⟨_, rfl⟩
    rw [hD] at hXe HDN
    rw [hy, hn] at hXe
    have HNN := Lib.hid hn
    have HYY := Lib.hid hy
    rw [hn] at hl HS HDN ⊢
    have HXE := Lib.hid hXe
    have hcond : (((n : Int) == d) = false ∧ X = false) ∨ ((n : Int) = d ∧ ((n : Int) == d) = true ∧ (decide ((D : Int) ≤ 3) = false ∧ X = false ∨ decide ((D : Int) ≤ 3) = true ∧ (y = true ∧ X = false ∨ y = false ∧ (decide (0 ≤ blob) = false ∧ X = false ∨ decide (0 ≤ blob) = true ∧ decide (blob ≤ 1048576) = X)))) := by
      rw [hXe]
      simp only [decide_eq_true_eq, decide_eq_false_iff_not, beq_iff_eq, beq_eq_false_iff_ne]
      by_cases q1 : (n : Int) = d
      · by_cases q2 : D ≤ 3
        · cases y
          · by_cases q3 : 0 ≤ blob
            · right; exact ⟨q1, q1, .inr ⟨by omega, .inr ⟨rfl, .inr ⟨q3, by simp [q1, q2, q3]⟩⟩⟩⟩
            · right; exact ⟨q1, q1, .inr ⟨by omega, .inr ⟨rfl, .inl ⟨q3, by simp [q3]⟩⟩⟩⟩
          · right; exact ⟨q1, q1, .inr ⟨by omega, .inl ⟨rfl, by simp⟩⟩⟩
        · right; exact ⟨q1, q1, .inl ⟨by omega, by simp [q2]⟩⟩
      · left; exact ⟨q1, by simp [q1]⟩
    clear hXe hn hD hy HXE
    rcases hcond with ⟨k1, rfl⟩ | ⟨k0, k1, ⟨k2, rfl⟩ | ⟨k2, ⟨rfl, rfl⟩ | ⟨rfl, ⟨k4, rfl⟩ | ⟨k4, k5⟩⟩⟩⟩
    all_goals
      go_enter Tryz.func30, Tryz.ntmps30
      go_wp2_with fail
      go_at_call 69
      refine (HC.out _).mono ?_
      rintro e w2 ⟨rfl, hb2⟩
      have HLB := (LabAt.of_box (BoxAt.new w (labA ⟨array, (dk : Int), gen, prev, ⟨d, ww, t, s, r, b, k, cc, o, a, g⟩, blob, sum, root⟩ (.slice ad n cap)) 29)).ext hb2
      have hx2 : Ext w w2 := (Ext.alloc _ _).trans hb2
      have HBB := Lib.hid HLB
      have HX2 := Lib.hid hx2
      have c1 := HLB.cell0 1 (v := .int .i64 dk) rfl
      have c2 := HLB.cell0 2 (v := encU gen) rfl
      have c3 := HLB.cell0 3 (v := encU prev) rfl
      have c4 := HLB.cell0 4 (v := .int .i64 d) rfl
      have c15 := HLB.cell0 15 (v := .slice ad n cap) rfl
      have hlt := HLB.2
      clear hb2 HLB hx2
      go_wp2_with (refine wpList_loadR 29 _ rfl (by rfl) rfl HBB.out.load ?_)
    · go_ret
      exact ⟨rfl, HX2.out⟩
    all_goals
      go_at_call 70
      refine (HDN.out _ HX2.out).mono ?_
      rintro e w3 ⟨rfl, hb3⟩
      have HX3 : Hid (Ext w w3) := HX2.out.trans hb3
      have HLB := HBB.out.ext hb3
      obtain ⟨b', off', rfl, hb', hc'⟩ := (HS.out.ext HX3.out).get dk (by rw [HNN.out]; omega)
      rw [← getD_in (d := true) (show dk < ds.length by rw [HNN.out]; omega), HYY.out] at hc'
      clear c1 c2 c3 c4 c15 hlt
      have hdkn : (dk : Int) < (n : Int) := by omega
      have c1 := HLB.cell0 1 (v := .int .i64 dk) rfl
      have c15 := HLB.cell0 15 (v := .slice (some ⟨b', off', none⟩) n cap) rfl
      have c16 := HLB.cell0 16 (v := .int .i64 blob) rfl
      have hlt := HLB.2
      clear hb3 HLB
      go_wp2_with fail
      go_ret
      exact ⟨by first | rfl | rw [k5], HX3.out⟩
  · obtain ⟨ad, cap, hv⟩ := h.shape
    have hF : (cfgB l.c && labHead l) = false := by simpa using hhd
    have hX : validL l ds = false := by unfold validL; rw [hF, Bool.false_and]
    rw [hX]
    exact valid_head l dv ds.length ad cap w hv hF
end Go.Proofs.YtjabgpejmnpamaaGreatDoor

namespace Go.Proofs.YtjabgpejmnpamaaGreatDoor
open Go.RowKit
set_option maxRecDepth 100000 in
set_option maxHeartbeats 2000000 in
theorem rvalid_head (l : Lab) (dv : Value) (n : Nat) (ad : Option Addr) (cap : Nat) (w : World) (hv : dv = .slice ad n cap) (hno : (cfgB l.c && labHead l) = false) :
    Calls Tryz.prog 6 #[labV l dv] w (CfgEnd w false) := by
  subst hv
  have HC := Lib.hid (rconfig_any l.c)
  obtain ⟨X, hX⟩ : ∃ X, cfgB l.c = X := ⟨_, rfl⟩
  have HCD : X = true → 4 ≤ l.c.d ∧ l.c.d ≤ 60 := fun h => by rw [← hX] at h; unfold cfgB cfgHead at h; simp only [Bool.and_eq_true, decide_eq_true_eq] at h; exact ⟨h.1.1.1, h.1.1.2.1⟩
  rw [hX] at HC hno
  have hcond : X = false ∨ X = true ∧ IntKind.i64.wrap (l.c.d - 1) = l.c.d - 1 ∧ wrap64 (l.c.d - 1) = l.c.d - 1 ∧ (withinB l.disk 0 (l.c.d - 1) = false ∨ withinB l.disk 0 (l.c.d - 1) = true ∧ (decide (un l.gen < 1) = true ∨ decide (un l.gen < 1) = false ∧ (decide (4294967296 ≤ un l.gen) = true ∨ decide (4294967296 ≤ un l.gen) = false ∧ decide (un l.gen ≤ un l.prev) = true))) := by
    cases X with
    | false => exact .inl rfl
    | true =>
      right
      obtain ⟨hd1, hd2⟩ := HCD rfl
      rw [Bool.true_and] at hno
      unfold labHead at hno
      rw [decide_eq_false_iff_not] at hno
      refine ⟨rfl, i64_id _ ⟨by omega, by omega⟩, IntWalk.wrap64_in _ ⟨by omega, by omega⟩, ?_⟩
      simp only [withinB, decide_eq_true_eq, decide_eq_false_iff_not]
      omega
  clear hno hX HCD
  obtain ⟨array, disk, gen, prev, ⟨d, ww, t, s, r, b, k, cc, o, a, g⟩, blob, sum, root⟩ := l
  simp only at hcond HC
  rcases hcond with rfl | ⟨rfl, q1, q2, e1 | ⟨e1, e3 | ⟨e3, e4 | ⟨e4, e5⟩⟩⟩⟩
  all_goals
    go_enter Tryz.func6, Tryz.ntmps6
    go_wp2_with fail
    go_at_call 28
    refine (HC.out _).mono ?_
    rintro e w2 ⟨rfl, hb2⟩
    have HLB := (LabAt.of_box (BoxAt.new w (labA ⟨array, disk, gen, prev, ⟨d, ww, t, s, r, b, k, cc, o, a, g⟩, blob, sum, root⟩ (.slice ad n cap)) 29)).ext hb2
    have hx2 : Ext w w2 := (Ext.alloc _ _).trans hb2
    have c1 := HLB.cell0 1 (v := .int .i64 disk) rfl
    have c2 := HLB.cell0 2 (v := encU gen) rfl
    have c3 := HLB.cell0 3 (v := encU prev) rfl
    have c4 := HLB.cell0 4 (v := .int .i64 d) rfl
    have hlt := HLB.2
    clear hb2 HLB
    go_wp2_with (go_at_call 29; refine (within_any _ _ _ _).mono ?_; rintro e w' ⟨rfl, rfl⟩)
    go_ret
    exact ⟨rfl, hx2⟩
end Go.Proofs.YtjabgpejmnpamaaGreatDoor

namespace Go.Proofs.YtjabgpejmnpamaaGreatDoor
open Go.RowKit
set_option maxRecDepth 100000 in
set_option maxHeartbeats 4000000 in
theorem rvalid_any (l : Lab) (dv : Value) (ds : List Bool) (w : World) (hl : ds.length ≤ 100000) (h : SliceAt Value.bool w dv ds) :
    Calls Tryz.prog 6 #[labV l dv] w (CfgEnd w (validL l ds)) := by
  by_cases hhd : (cfgB l.c && labHead l) = true
  · obtain ⟨ad, cap, rfl⟩ := h.shape
    have HS := Lib.hid h
    have hca : cfgB l.c = true := by rw [Bool.and_eq_true] at hhd; exact hhd.1
    have hla : labHead l = true := by rw [Bool.and_eq_true] at hhd; exact hhd.2
    have hcd : 4 ≤ l.c.d ∧ l.c.d ≤ 60 := by unfold cfgB cfgHead at hca; simp only [Bool.and_eq_true, decide_eq_true_eq] at hca; exact ⟨hca.1.1.1, hca.1.1.2.1⟩
    obtain ⟨X, hX⟩ : ∃ X, validL l ds = X := ⟨_, rfl⟩
    have hXe : X = decide ((ds.length : Int) = l.c.d ∧ deadN ds ds.length ≤ 3 ∧ ds.getD l.disk.toNat true = false ∧ 0 ≤ l.blob ∧ l.blob ≤ 1048576) := by rw [← hX]; unfold validL; rw [hhd, Bool.true_and]
    rw [hX]
    have HC := Lib.hid (rconfig_any l.c)
    rw [hca] at HC
    unfold labHead at hla
    rw [decide_eq_true_eq] at hla
    clear hX hhd hca h
    obtain ⟨array, disk, gen, prev, ⟨d, ww, t, s, r, b, k, cc, o, a, g⟩, blob, sum, root⟩ := l
    simp only at hla hXe HC hcd
    obtain ⟨h1, h2, h3, h4, h5⟩ := hla
    obtain ⟨dk, rfl⟩ := Int.eq_ofNat_of_zero_le h1
    have q1 : IntKind.i64.wrap (d - 1) = d - 1 := i64_id _ ⟨by omega, by omega⟩
    have q2 : wrap64 (d - 1) = d - 1 := IntWalk.wrap64_in _ ⟨by omega, by omega⟩
    have e1 : withinB (dk : Int) 0 (d - 1) = true := by unfold withinB; rw [decide_eq_true_eq]; omega
    have e3 : decide (un gen < 1) = false := by rw [decide_eq_false_iff_not]; omega
    have e4 : decide (4294967296 ≤ un gen) = false := by rw [decide_eq_false_iff_not]; omega
    have e5 : decide (un gen ≤ un prev) = false := by rw [decide_eq_false_iff_not]; omega
    rw [Int.toNat_natCast] at hXe
    clear h1 h3 h4 h5 hcd
    obtain ⟨n, hn⟩ : ∃ n, ds.length = n := ⟨_, rfl⟩
    obtain ⟨y, hy⟩ : ∃ y, ds.getD dk true = y := ⟨_, rfl⟩
    have HDL := Lib.hid (deadN_le ds)
    rw [hy] at hXe
    have hXe2 : X = decide ((n : Int) = d ∧ deadN ds n ≤ 3 ∧ y = false ∧ 0 ≤ blob ∧ blob ≤ 1048576) := by rw [hXe, hn]
    clear hXe
    have HNN := Lib.hid hn
    have HYY := Lib.hid hy
    rw [hn] at hl HS ⊢
    have hcond : (((n : Int) == d) = false ∧ X = false) ∨ ((n : Int) = d ∧ ((n : Int) == d) = true ∧ (y = true ∧ X = false ∨ y = false ∧ (withinB blob 0 1048576 = false ∧ X = false ∨ withinB blob 0 1048576 = true ∧ X = decide (deadN ds n ≤ 3)))) := by
      rw [hXe2]
      simp only [decide_eq_true_eq, decide_eq_false_iff_not, beq_iff_eq, beq_eq_false_iff_ne, withinB]
      by_cases q1 : (n : Int) = d
      · right
        refine ⟨q1, q1, ?_⟩
        cases y
        · right
          refine ⟨rfl, ?_⟩
          by_cases q3 : 0 ≤ blob ∧ blob ≤ 1048576
          · exact .inr ⟨q3, by simp [q1, q3]⟩
          · exact .inl ⟨q3, fun h => q3 h.2.2.2⟩
        · exact .inl ⟨rfl, by simp⟩
      · left; exact ⟨q1, by simp [q1]⟩
    clear hXe2 hn hy
    rcases hcond with ⟨k1, rfl⟩ | ⟨k0, k1, ⟨rfl, rfl⟩ | ⟨rfl, ⟨k4, rfl⟩ | ⟨k4, rfl⟩⟩⟩
    · have k1' : ((n : Int) != d) = true := by rw [bne, k1]; rfl
      go_enter Tryz.func6, Tryz.ntmps6
      go_wp2_with fail
      go_at_call 28
      refine (HC.out _).mono ?_
      rintro e w2 ⟨rfl, hb2⟩
      have HLB := (LabAt.of_box (BoxAt.new w (labA ⟨array, (dk : Int), gen, prev, ⟨d, ww, t, s, r, b, k, cc, o, a, g⟩, blob, sum, root⟩ (.slice ad n cap)) 29)).ext hb2
      have hx2 : Ext w w2 := (Ext.alloc _ _).trans hb2
      have c1 := HLB.cell0 1 (v := .int .i64 dk) rfl
      have c2 := HLB.cell0 2 (v := encU gen) rfl
      have c3 := HLB.cell0 3 (v := encU prev) rfl
      have c4 := HLB.cell0 4 (v := .int .i64 d) rfl
      have c15 := HLB.cell0 15 (v := .slice ad n cap) rfl
      have hlt := HLB.2
      clear hb2 HLB
      go_wp2_with (go_at_call 29; refine (within_any _ _ _ _).mono ?_; rintro e w' ⟨rfl, rfl⟩)
      go_ret
      exact ⟨rfl, hx2⟩
    all_goals
      obtain ⟨b', off', rfl, hb', hc'⟩ := HS.out.get dk (by rw [HNN.out]; omega)
      rw [← getD_in (d := true) (show dk < ds.length by rw [HNN.out]; omega), HYY.out] at hc'
      have hdkn : (dk : Int) < (n : Int) := by omega
      go_enter Tryz.func6, Tryz.ntmps6
      go_wp2_with fail
      go_at_call 28
      refine (HC.out _).mono ?_
      rintro e w2 ⟨rfl, hb2⟩
      have HLB := (LabAt.of_box (BoxAt.new w (labA ⟨array, (dk : Int), gen, prev, ⟨d, ww, t, s, r, b, k, cc, o, a, g⟩, blob, sum, root⟩ (.slice (some ⟨b', off', none⟩) n cap)) 29)).ext hb2
      have hx2 : Ext w w2 := (Ext.alloc _ _).trans hb2
      have hc2 : w2.cell? ⟨b', off' + dk, none⟩ = some (.bool _) := (Below.cell (p := ⟨b', off' + dk, none⟩) hx2 hb').trans hc'
      have HX2 := Lib.hid hx2
      have c1 := HLB.cell0 1 (v := .int .i64 dk) rfl
      have c2 := HLB.cell0 2 (v := encU gen) rfl
      have c3 := HLB.cell0 3 (v := encU prev) rfl
      have c4 := HLB.cell0 4 (v := .int .i64 d) rfl
      have c15 := HLB.cell0 15 (v := .slice (some ⟨b', off', none⟩) n cap) rfl
      have c16 := HLB.cell0 16 (v := .int .i64 blob) rfl
      have hlt := HLB.2
      clear hb2 HLB hx2 hc'
      go_wp2_with (go_at_call 29; refine (within_any _ _ _ _).mono ?_; rintro e w' ⟨rfl, rfl⟩)
    · go_ret
      exact ⟨rfl, HX2.out⟩
    · go_ret
      exact ⟨rfl, HX2.out⟩
    · clear hc2 c1 c2 c3 c4 c16
      go_loop [3, 4] (fun cv iv => ∃ i : Nat, i ≤ n ∧ iv = .int .i64 i ∧ cv = .int .i64 (deadN ds i : Nat)) (fun _ iv => n - (intOf iv).toNat)
      case atStart => exact ⟨0, Nat.zero_le _, rfl, by simp [deadN]⟩
      case round =>
        obtain ⟨i, hi, rfl, rfl⟩ := hrel
        by_cases hlt2 : i < n
        · have hin : (i : Int) < (n : Int) := by omega
          obtain ⟨b2, off2, hbe, hb, hc⟩ := (HS.out.ext HX2.out).get i (by rw [HNN.out]; exact hlt2)
          cases hbe
          have HD := Lib.hid (deadN_succ (l := ds) (n := i) (by rw [HNN.out]; exact hlt2))
          have hd2 := HDL.out i
          generalize ds[i]'(by rw [HNN.out]; exact hlt2) = y at *
          generalize deadN ds i = D at *
          cases y with
          | false =>
            go_wp2_with fail
            go_round
            case rel => exact ⟨i + 1, by omega, by go_num, by rw [HD.out]; simp⟩
            case measure => simp [intOf]; omega
          | true =>
            go_wp2_with fail
            go_round
            case rel => exact ⟨i + 1, by omega, by go_num, by rw [HD.out]; simp⟩
            case measure => simp [intOf]; omega
        · have hin : i = n := by omega
          subst hin
          have hin2 : ¬ ((i : Int) < (i : Int)) := by omega
          go_wp2_with fail
          go_ret
          exact ⟨ret_iff (by simp only [decide_eq_true_eq]; omega), HX2.out⟩
  · obtain ⟨ad, cap, hv⟩ := h.shape
    have hF : (cfgB l.c && labHead l) = false := by simpa using hhd
    have hX : validL l ds = false := by unfold validL; rw [hF, Bool.false_and]
    rw [hX]
    exact rvalid_head l dv ds.length ad cap w hv hF
end Go.Proofs.YtjabgpejmnpamaaGreatDoor

namespace Go.Proofs.YtjabgpejmnpamaaGreatDoor
open Go.RowKit
def eqCfg (a b : Cfg) : Bool := decide (cfgL a = cfgL b)
theorem run_eq_cfg (a b : Cfg) (w : World) : (Op.equalIn 10000 26 (cfgV a) (cfgV b)).run Tryz.prog w = .ok (eqCfg a b) w := by
  have h : eqCfg a b = (a.d == b.d && a.w == b.w && a.t == b.t && a.s == b.s && a.r == b.r && a.b == b.b && a.k == b.k && a.c == b.c && a.o == b.o && a.a == b.a && a.g == b.g) := by
    unfold eqCfg cfgL
    rw [Bool.eq_iff_iff]
    simp only [decide_eq_true_eq, List.cons.injEq, Bool.and_eq_true, beq_iff_eq, and_true, and_assoc]
  rw [h]
  obtain ⟨d, ww, t, s, r, b', k, cc, o, a', g⟩ := a
  obtain ⟨d2, ww2, t2, s2, r2, b2, k2, cc2, o2, a2, g2⟩ := b
  simp only
  clear h
  go_simp
  repeat' split
  all_goals simp_all
def eqD (x y : List Bool) : Bool := decide (x = y)
theorem eqD_len {x y : List Bool} (h : x.length ≠ y.length) : eqD x y = false := by unfold eqD; rw [decide_eq_false_iff_not]; intro e; exact h (by rw [e])
theorem eqD_at {x y : List Bool} {i : Nat} (hx : i < x.length) (hy : i < y.length) (h : x[i] ≠ y[i]) : eqD x y = false := by unfold eqD; rw [decide_eq_false_iff_not]; intro e; subst e; exact h rfl
theorem eqD_all {x y : List Bool} (h : x.length = y.length) (ha : x.take x.length = y.take x.length) : eqD x y = true := by
  unfold eqD; rw [decide_eq_true_eq]
  rwa [List.take_length, h, List.take_length] at ha
theorem take_next {x y : List Bool} {i : Nat} (hx : i < x.length) (hy : i < y.length) (h : x.take i = y.take i) (he : x[i] = y[i]) : x.take (i + 1) = y.take (i + 1) := by
  rw [List.take_succ_eq_append_getElem hx, List.take_succ_eq_append_getElem hy, h, he]
def BoolEnd (w0 : World) (b : Bool) (e : Ending) (w' : World) : Prop := e = .returned (.bool b) ∧ Ext w0 w'
set_option maxRecDepth 100000 in
set_option maxHeartbeats 1000000 in
theorem eqsl_any (v1 v2 : Value) (x y : List Bool) (w : World) (hlx : x.length ≤ 100000) (hly : y.length ≤ 100000) (hx : SliceAt Value.bool w v1 x) (hy : SliceAt Value.bool w v2 y) :
    Calls Tryz.prog 40 #[v1, v2] w (BoolEnd w (eqD x y)) := by
  obtain ⟨ad1, cap1, rfl⟩ := hx.shape
  obtain ⟨ad2, cap2, rfl⟩ := hy.shape
  have HX := Lib.hid hx
  have HY := Lib.hid hy
  obtain ⟨n, hn⟩ : ∃ n, x.length = n := ⟨_, rfl⟩
  obtain ⟨m, hm⟩ : ∃ m, y.length = m := ⟨_, rfl⟩
  have HN := Lib.hid hn
  have HM := Lib.hid hm
  rw [hn] at HX hlx ⊢
  rw [hm] at HY hly ⊢
  clear hx hy hn hm
  by_cases hnm : n = m
  · subst hnm
    have hq1 : ((n : Int) == n) = true := by simp
    have hq2 : ((n : Int) != n) = false := by simp
    have HX0 : Hid (Ext w w) := Ext.refl _
    go_enter Tryz.func40, Tryz.ntmps40
    go_wp2_with fail
    go_loopw [13] (fun iv wr => ∃ i : Nat, i ≤ n ∧ iv = .int .i64 i ∧ Hid (x.take i = y.take i) ∧ Hid (Ext w wr)) (fun iv _ => n - (intOf iv).toNat)
    case atStart => exact ⟨0, Nat.zero_le _, rfl, by show _ = _; simp, HX0⟩
    case round =>
      obtain ⟨i, hi, rfl, HT, HXr⟩ := hrel
      by_cases hlt : i < n
      · have hin : (i : Int) < (n : Int) := by omega
        have hi0 : (0 : Int) ≤ (i : Int) := by omega
        obtain ⟨b1, off1, rfl, hb1, hc1⟩ := (HX.out.ext HXr.out).get i (by rw [HN.out]; exact hlt)
        obtain ⟨b2, off2, rfl, hb2, hc2⟩ := (HY.out.ext HXr.out).get i (by rw [HM.out]; exact hlt)
        have HNE : Hid (x[i]'(by rw [HN.out]; exact hlt) ≠ y[i]'(by rw [HM.out]; exact hlt) → eqD x y = false) := fun h => eqD_at _ _ h
        have HEQ : Hid (x[i]'(by rw [HN.out]; exact hlt) = y[i]'(by rw [HM.out]; exact hlt) → x.take (i + 1) = y.take (i + 1)) := fun h => take_next _ _ HT.out h
        generalize x[i]'(by rw [HN.out]; exact hlt) = p at *
        generalize y[i]'(by rw [HM.out]; exact hlt) = q at *
        cases p <;> cases q
        all_goals
          go_wp2_with fail
          refine wp_region_ext [(0, true), (1, true), (2, true), (3, true), (4, true), (5, true), (6, true), (7, true), (8, true)] (by kernel_rfl) (by kernel_rfl) ?_
          iterate 9 ((first
           | refine ext_move rfl rfl (by rfl) (by rfl) ?_
           | refine ext_assign rfl rfl (by rfl) (by rfl) ?_
           | refine ext_pick_t rfl rfl (by rfl) (by rfl) (by rfl) ?_
           | refine ext_pick_f rfl rfl (by rfl) (by rfl) (by rfl) ?_
           | (apply ext_take rfl (by rfl)
              · intro w' hS
                have hSc := hS.cells
                (try simp only [World.size_drew, World.cell?_drew] at hSc)
                go_simp
                (try simp (disch := omega) only [i64_id, u64_id, ↓IntWalk.iteOmega, Int.tdiv_eq_ediv_of_nonneg, Int.tmod_eq_emod_of_nonneg])
                try rfl)
           | refine ext_pass rfl (by rfl) ?_); simp only [Act.put, setZa, setZ0, setZ1])
          refine ext_nil ?_
          go_wp2_with fail
        · go_roundw
          case rel => exact ⟨i + 1, by omega, by go_num, HEQ.out (by simp), HXr.out.trans (Ext.drew _)⟩
          case measure => simp [intOf]; omega
        · rw [HNE.out (by simp)]
          go_ret
          exact ⟨rfl, HXr.out.trans (Ext.drew _)⟩
        · rw [HNE.out (by simp)]
          go_ret
          exact ⟨rfl, HXr.out.trans (Ext.drew _)⟩
        · go_roundw
          case rel => exact ⟨i + 1, by omega, by go_num, HEQ.out (by simp), HXr.out.trans (Ext.drew _)⟩
          case measure => simp [intOf]; omega
      · have hin : i = n := by omega
        subst hin
        have hin2 : ¬ ((i : Int) < (i : Int)) := by omega
        go_wp2_with fail
        go_ret
        exact ⟨by rw [eqD_all (HN.out.trans HM.out.symm) (by rw [HN.out]; exact HT.out)]; rfl, HXr.out⟩
  · have hb1 : ((n : Int) == m) = false := by rw [beq_eq_false_iff_ne]; omega
    have hb2 : ((n : Int) != m) = true := by rw [bne, hb1]; rfl
    rw [eqD_len (by rw [HN.out, HM.out]; exact hnm)]
    go_enter Tryz.func40, Tryz.ntmps40
    go_wp2_with fail
    go_ret
    exact ⟨rfl, Ext.refl _⟩
end Go.Proofs.YtjabgpejmnpamaaGreatDoor
