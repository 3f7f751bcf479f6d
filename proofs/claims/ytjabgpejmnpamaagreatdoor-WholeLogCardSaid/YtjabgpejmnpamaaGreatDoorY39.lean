/-
  Part 39 of the proof.
-/
import Derived.Test.YtjabgpejmnpamaaGreatDoorY36
import Derived.Test.YtjabgpejmnpamaaGreatDoorY19
import Derived.Test.YtjabgpejmnpamaaGreatDoorY02
set_option linter.unusedVariables false
namespace Go.Proofs.YtjabgpejmnpamaaGreatDoor
open Go.RowKit Go.Shelf
set_option maxRecDepth 100000
structure Wp (B R D P q ce : Nat) (n : Cn) (w w' : World) : Prop where
  box : ∃ g' c', BoxAt w' R (dvC D q ce g' c' 1) 144
  ent : ∃ EA, BoxAt w' q EA 154 ∧ EA[3]? = some (.int .i64 1) ∧ EA[4]? = some (.int .u64 5) ∧ EA[5]? = some (.int .i64 60)
  dsk : Pw B w' D P n xL
  chg : Chg B (144 :: 154 :: TTd) w w'
set_option maxHeartbeats 4000000 in
theorem vput_any (B R D P q ce g c : Nat) (n : Cn) (w : World) (h : BoxAt w R (dvC D q ce g c 0) 144) (he : Ent w q) (hb : Bnd w g c) (hp : Ph B w D P n []) (hBw : B ≤ w.heap.size) (hBR : B ≤ R) (hBq : B ≤ q) :
    Calls Tryz.prog 63 #[.pointer (some ⟨R, 0, none⟩), xV] w fun e w' => e = .returned (.int .i64 0) ∧ Wp B R D P q ce n w w' := by
  have hx := Ext.alloc w (.cells #[.int .i64 1, .int .i64 1, .int .u64 5, .int .u8 9, .int .u8 0, .int .u8 0, .int .u8 0, .int .u8 0, .int .u8 0, .int .u8 0, .int .u8 0] 151)
  have hxe := BoxAt.new w #[.int .i64 1, .int .i64 1, .int .u64 5, .int .u8 9, .int .u8 0, .int .u8 0, .int .u8 0, .int .u8 0, .int .u8 0, .int .u8 0, .int .u8 0] 151
  have HX := Lib.hid hx
  have HXE := Lib.hid hxe
  have HR := Lib.hid (h.ext hx)
  have HE := Lib.hid (he.ext hx)
  have HB := Lib.hid (hb.ext hx)
  have HP := Lib.hid (hp.ext hx)
  have x1 := hxe.cell 1 (v := .int .i64 1) rfl
  have x2 := hxe.cell 2 (v := .int .u64 5) rfl
  have mx := hxe.lt
  obtain ⟨EA, hea1, hea2⟩ := he
  have y2 := (h.ext hx).cell 2 (v := .slice (some ⟨q, 0, none⟩) 4 ce) rfl
  have my := (h.ext hx).lt
  have y4 := (hea1.ext hx).cell 4 (v := .int .u64 0) (ent_get hea2 4 (by decide))
  have mq := (hea1.ext hx).lt
  clear h hb hp hx hxe hea1 hea2
  go_enter Tryz.func63, Tryz.ntmps63
  go_wp2_with first | (go_at_call 64; refine (vstate_any R D q ce g c 0 _ HR.out).mono ?_; rintro e w' ⟨rfl, rfl⟩) | (go_at_call 65; refine (vhas_any R D q ce g c 0 _ HR.out).mono ?_; rintro e w' ⟨rfl, rfl⟩)
  generalize (w.alloc (.cells #[.int .i64 1, .int .i64 1, .int .u64 5, .int .u8 9, .int .u8 0, .int .u8 0, .int .u8 0, .int .u8 0, .int .u8 0, .int .u8 0, .int .u8 0] 151)) = W0 at *
  obtain ⟨gx, hgx⟩ : ∃ gx, w.heap.size = gx := ⟨_, rfl⟩
  rw [hgx] at HXE x1 x2 mx ⊢
  have HGX := Lib.hid hgx
  clear hgx
  refine wp_region_ext [(0, true), (1, true), (2, true), (3, true), (4, true), (5, true), (6, true), (7, true), (8, true), (9, true), (10, true), (11, true), (12, true), (13, true), (14, true), (15, true), (16, true), (17, true)] (by kernel_rfl) (by kernel_rfl) ?_
  iterate 18 ((first
   | refine ext_move rfl rfl (by rfl) (by rfl) ?_
   | refine ext_assign rfl rfl (by rfl) (by rfl) ?_
   | refine ext_pick_t rfl rfl (by rfl) (by rfl) (by rfl) ?_
   | refine ext_pick_f rfl rfl (by rfl) (by rfl) (by rfl) ?_
   | (apply ext_take rfl (by rfl)
      · intro w' hS
        have hSc := hS.cells
        (try simp only [World.size_drew, World.cell?_drew] at hSc)
        go_simp
        (try simp (disch := omega) only [i64_id, u64_id, ↓IntWalk.iteOmega, Int.tdiv_eq_ediv_of_nonneg, Int.tmod_eq_emod_of_nonneg])
        try rfl)
   | refine ext_pass rfl (by rfl) ?_); simp only [Act.put, setZa, setZ0, setZ1])
  refine ext_nil ?_
  have HXd := Lib.hid (HX.out.trans (Ext.drew _))
  have HXEd := Lib.hid (HXE.out.ext (Ext.drew _))
  have HRd := Lib.hid (HR.out.ext (Ext.drew _))
  have HEd := Lib.hid (HE.out.ext (Ext.drew _))
  have HBd := Lib.hid (HB.out.ext (Ext.drew _))
  have HPd := Lib.hid (HP.out.ext (Ext.drew _))
  clear HX HXE HR HE HB HP x1 x2 mx y2 my y4 mq
  generalize W0.drew = W at *
  have r3 := HRd.out.cell 3 (v := .slice (some ⟨g, 0, none⟩) 5 c) rfl
  have mr := HRd.out.lt
  go_wp2_with fail
  refine wp_loop_rounds 1 ?_
  rw [rounds_succ]
  go_wp2_with first | (go_at_call 116; refine (free_any g c _ HBd.out).mono ?_; rintro e W2 ⟨rfl, hx2⟩; have HX2 := Lib.hid hx2; have h1 := HXEd.out.ext hx2; have x0 := h1.cell 0 (v := .int .i64 1) rfl; have x1 := h1.cell 1 (v := .int .i64 1) rfl; have x2 := h1.cell 2 (v := .int .u64 5) rfl; have x3 := h1.cell 3 (v := .int .u8 9) rfl; have x4 := h1.cell 4 (v := .int .u8 0) rfl; have x5 := h1.cell 5 (v := .int .u8 0) rfl; have x6 := h1.cell 6 (v := .int .u8 0) rfl; have x7 := h1.cell 7 (v := .int .u8 0) rfl; have x8 := h1.cell 8 (v := .int .u8 0) rfl; have x9 := h1.cell 9 (v := .int .u8 0) rfl; have x10 := h1.cell 10 (v := .int .u8 0) rfl; have mx := h1.lt; clear hx2 h1 r3 mr) | (go_at_call 119; go_loud (refine (vapp_any B R D P q ce g c n _ (HRd.out.ext HX2.out) (HEd.out.ext HX2.out) (HBd.out.ext HX2.out) (HPd.out.ext HX2.out) (Nat.le_trans hBw (Nat.le_trans HXd.out.size HX2.out.size)) hBR hBq).mono ?_); rintro e W3 ⟨rfl, h1, h2, h3, h4⟩; have HWp : Hid (Wp B R D P q ce n w W3) := Lib.hid ⟨h1, h2, h3, (Chg.ext (HXd.out.trans HX2.out) hBw).trans h4⟩; clear h1 h2 h3 h4)
  go_ret
  exact ⟨rfl, HWp.out⟩
set_option maxHeartbeats 2000000 in
theorem vwrite_any (B R D P q ce g c : Nat) (n : Cn) (w : World) (h : BoxAt w R (dvC D q ce g c 0) 144) (he : Ent w q) (hb : Bnd w g c) (hp : Ph B w D P n []) (hBw : B ≤ w.heap.size) (hBR : B ≤ R) (hBq : B ≤ q) :
    Calls Tryz.prog 26 #[.pointer (some ⟨R, 0, none⟩), .int .i64 1, .int .u64 5, .agg #[.int .u8 9, .int .u8 0, .int .u8 0, .int .u8 0, .int .u8 0, .int .u8 0, .int .u8 0, .int .u8 0]] w fun e w' => e = .returned (.int .i64 0) ∧ Wp B R D P q ce n w w' := by
  have HX := Lib.hid (Ext.alloc w (.cells #[.int .u8 9, .int .u8 0, .int .u8 0, .int .u8 0, .int .u8 0, .int .u8 0, .int .u8 0, .int .u8 0] 76))
  have HXE := Lib.hid (BoxAt.new w #[.int .u8 9, .int .u8 0, .int .u8 0, .int .u8 0, .int .u8 0, .int .u8 0, .int .u8 0, .int .u8 0] 76)
  have HR := Lib.hid (h.ext HX.out)
  have HE := Lib.hid (he.ext HX.out)
  have HB := Lib.hid (hb.ext HX.out)
  have HP := Lib.hid (hp.ext HX.out)
  clear h he hb hp
  go_enter Tryz.func26, Tryz.ntmps26
  go_wp2_with (go_at_call 63; go_loud (refine (vput_any B R D P q ce g c n _ HR.out HE.out HB.out HP.out (Nat.le_trans hBw HX.out.size) hBR hBq).mono ?_); rintro e W3 ⟨rfl, h1⟩; have HWp : Hid (Wp B R D P q ce n w W3) := Lib.hid ⟨h1.box, h1.ent, h1.dsk, (Chg.ext HX.out hBw).trans h1.chg⟩; clear h1)
  go_ret
  exact ⟨rfl, HWp.out⟩
end Go.Proofs.YtjabgpejmnpamaaGreatDoor

namespace Go.Proofs.YtjabgpejmnpamaaGreatDoor
open Go.RowKit Go.Shelf
set_option maxRecDepth 100000
theorem results_tct {P : Program} {fn : Func} {p a b : Tmp} {ty : TypeId} (h : fn.results = #[.tmp a, .cell p ty, .tmp b]) (tmps : Array Value) (w : World) {g : Nat} {v : Value}
    (hp : tmps.getD p undef = .pointer (some ⟨g, 0, none⟩)) (hl : (loadVar ty ⟨g, 0, none⟩).run P w = .ok v w) :
    (results fn tmps).run P w = .ok (.tuple #[tmps.getD a undef, v, tmps.getD b undef]) w := by
  have hp' : tmps[p]?.getD undef = .pointer (some ⟨g, 0, none⟩) := by simpa using hp
  simp [results, h, hp', asAddr, hl]
set_option maxHeartbeats 4000000 in
theorem vsec1_any (B R D P q ce g c gR gA gO : Nat) (n : Cn) (x0 : Value) (w : World) (h : BoxAt w R (dvC D q ce g c 1) 144) (hp : Pw B w D P n xL) (hBw : B ≤ w.heap.size) (hR : BoxAt w gR #[.pointer (some ⟨R, 0, none⟩)] 71) (hA : BoxAt w gA #[.int .i64 60] 3) (hO : BoxAt w gO #[x0] 47) (hgO : B ≤ gO) :
    Calls Tryz.prog 183 #[.pointer (some ⟨gR, 0, none⟩), .pointer (some ⟨gA, 0, none⟩), .pointer (some ⟨gO, 0, none⟩)] w fun e w' => e = .returned (.int .i64 0) ∧ Pw B w' D P n xL ∧ (∃ v' bb', BoxAt w' gO #[v'] 47 ∧ OwnB w' bb' v' xL) ∧ Chx B TTd gO w w' := by
  have HP := Lib.hid hp
  have HO := Lib.hid hO
  have a0 := hR.cell 0 (v := .pointer (some ⟨R, 0, none⟩)) rfl
  have a1 := hA.cell 0 (v := .int .i64 60) rfl
  have a3 := h.cell 0 (v := .pointer (some ⟨D, 0, none⟩)) rfl
  have a4 := h.cell 1 (v := .int .u64 0) rfl
  have l0 := hR.lt
  have l1 := hA.lt
  have l3 := h.lt
  clear h hp hR hA hO
  go_enter Tryz.func183, Tryz.ntmps183
  go_wp2_with fail
  refine wp_region_exq [(0, true), (1, true), (2, true), (3, true), (4, true), (5, true), (6, true), (7, true), (8, true), (9, false), (10, true), (11, true), (12, true), (13, false), (14, true)] (by kernel_rfl) (by kernel_rfl) ?_
  iterate 9 ((first
   | refine exq_move rfl rfl (by rfl) (by rfl) ?_
   | refine exq_assign rfl rfl (by rfl) (by rfl) ?_
   | refine exq_pick_t rfl rfl (by rfl) (by rfl) (by rfl) ?_
   | refine exq_pick_f rfl rfl (by rfl) (by rfl) (by rfl) ?_
   | (apply exq_take rfl (by rfl)
      · intro w' hS
        have hSc := hS.cells
        (try simp only [World.size_drew, World.cell?_drew] at hSc)
        go_simp
        (try simp (disch := omega) only [i64_id, u64_id, ↓IntWalk.iteOmega, Int.tdiv_eq_ediv_of_nonneg, Int.tmod_eq_emod_of_nonneg])
        try rfl)
   | refine exq_pass rfl (by rfl) ?_); simp only [Act.put, setZa, setZ0, setZ1])
  (refine exq_store rfl (by rfl) (by kernel_rfl) (fun K hK => ?_)
   go_simp
   go_at_call 184
   refine (dread_any B D P n xL (by rw [xL_len]; decide) _ (HP.out.ext (by first | exact Ext.refl _ | exact Ext.drew _)) (by first | exact hBw | exact Nat.le_trans hBw (Ext.drew _).size)).mono ?_
   rintro e W1 ⟨v', bb', rfl, h1, h2, h3⟩
   obtain ⟨va, vc, rfl⟩ := own_shape h2
   rw [xL_len] at h2 ⊢
   have H1 := Lib.hid h1
   have H2 := Lib.hid h2
   have H3 : Hid (Chg B TTd w W1) := Lib.hid ((Chg.ext (by first | exact Ext.drew _ | exact Ext.refl _) hBw).trans h3)
   have HO1 := Lib.hid (HO.out.chg H3.out (by decide))
   refine hK _ _ ?_
   clear hK K h1 h2 h3
   (try simp only [Act.put, setZa, setZ0, setZ1]))
  iterate 3 ((first
   | refine exq_move rfl rfl (by rfl) (by rfl) ?_
   | refine exq_assign rfl rfl (by rfl) (by rfl) ?_
   | refine exq_pick_t rfl rfl (by rfl) (by rfl) (by rfl) ?_
   | refine exq_pick_f rfl rfl (by rfl) (by rfl) (by rfl) ?_
   | (apply exq_take rfl (by rfl)
      · intro w' hS
        have hSc := hS.cells
        (try simp only [World.size_drew, World.cell?_drew] at hSc)
        go_simp
        (try simp (disch := omega) only [i64_id, u64_id, ↓IntWalk.iteOmega, Int.tdiv_eq_ediv_of_nonneg, Int.tmod_eq_emod_of_nonneg])
        try rfl)
   | refine exq_pass rfl (by rfl) ?_); simp only [Act.put, setZa, setZ0, setZ1])
  (refine exq_store rfl (by rfl) (by kernel_rfl) (fun K hK => ?_)
   refine wp_of_list rfl ?_
   refine wpList_store_cell 47 _ _ rfl (by rfl) (i := 0) rfl rfl HO1.out (by simp) (by kernel_rfl) rfl ?_
   intro W2 hS
   have HS : Hid (Stored W1 W2 gO #[.slice va 37 vc] 47) := Lib.hid hS
   refine hK _ _ ?_
   clear hK K hS
   (try simp only [Act.put]))
  iterate 1 ((first
   | refine exq_move rfl rfl (by rfl) (by rfl) ?_
   | refine exq_assign rfl rfl (by rfl) (by rfl) ?_
   | refine exq_pick_t rfl rfl (by rfl) (by rfl) (by rfl) ?_
   | refine exq_pick_f rfl rfl (by rfl) (by rfl) (by rfl) ?_
   | (apply exq_take rfl (by rfl)
      · intro w' hS
        have hSc := hS.cells
        (try simp only [World.size_drew, World.cell?_drew] at hSc)
        go_simp
        (try simp (disch := omega) only [i64_id, u64_id, ↓IntWalk.iteOmega, Int.tdiv_eq_ediv_of_nonneg, Int.tmod_eq_emod_of_nonneg])
        try rfl)
   | refine exq_pass rfl (by rfl) ?_); simp only [Act.put, setZa, setZ0, setZ1])
  refine exq_nil ?_
  go_wp2_with fail
  go_ret
  have hc : Chg B [47] W1 W2 := (Chg.refl _ _ _).stored HO1.out HS.out (by simp) hgO
  exact ⟨rfl, H1.out.chg hc (by decide), ⟨_, bb', HS.out.box, ownsRow_chg hc H2.out (by decide)⟩, (H3.out.chx gO).trans (HS.out.chx hgO)⟩
abbrev scW (w : World) (R : Nat) : World := ((w.alloc (.cells #[.pointer (some ⟨R, 0, none⟩)] 71)).alloc (.cells #[.int .i64 60] 3)).alloc (.cells #[.slice none 0 0] 47)
theorem scW_ext (w : World) (R : Nat) : Ext w (scW w R) := ((Ext.alloc _ _).trans (Ext.alloc _ _)).trans (Ext.alloc _ _)
theorem scW_0 (w : World) (R : Nat) : BoxAt (scW w R) w.heap.size #[.pointer (some ⟨R, 0, none⟩)] 71 := (BoxAt.new w _ _).ext ((Ext.alloc _ _).trans (Ext.alloc _ _))
theorem scW_1 (w : World) (R : Nat) : BoxAt (scW w R) (w.heap.size + 1) #[.int .i64 60] 3 := by
  have h := (BoxAt.new (w.alloc (.cells #[.pointer (some ⟨R, 0, none⟩)] 71)) #[.int .i64 60] 3).ext (Ext.alloc _ (.cells #[.slice none 0 0] 47))
  rwa [World.size_alloc] at h
theorem scW_2 (w : World) (R : Nat) : BoxAt (scW w R) (w.heap.size + 2) #[.slice none 0 0] 47 := by
  have h := BoxAt.new ((w.alloc (.cells #[.pointer (some ⟨R, 0, none⟩)] 71)).alloc (.cells #[.int .i64 60] 3)) #[.slice none 0 0] 47
  rwa [World.size_alloc, World.size_alloc] at h
set_option maxHeartbeats 4000000 in
theorem vsec_any (B R D P q ce g c : Nat) (n : Cn) (w : World) (h : BoxAt w R (dvC D q ce g c 1) 144) (hp : Pw B w D P n xL) (hBw : B ≤ w.heap.size) :
    Calls Tryz.prog 120 #[.pointer (some ⟨R, 0, none⟩), .int .i64 60] w fun e w' => ∃ va vc bb', e = .returned (.tuple #[.slice va 37 vc, .int .i64 0]) ∧ Pw B w' D P n xL ∧ OwnB w' bb' (.slice va 37 vc) xL ∧ Chg B TTd w w' := by
  have HX := Lib.hid (scW_ext w R)
  have HP := Lib.hid (hp.ext HX.out)
  have HR := Lib.hid (h.ext HX.out)
  clear h hp
  go_enter Tryz.func120, Tryz.ntmps120
  go_wp2_with (go_at_call 58; go_loud (refine (retry_any 183 (enters_of Tryz.func183 (by kernel_rfl) rfl) _ _ (fun w' => Pw B w' D P n xL ∧ (∃ v' bb', BoxAt w' (w.heap.size + 2) #[v'] 47 ∧ OwnB w' bb' v' xL) ∧ Chx B TTd (w.heap.size + 2) (scW w R) w') (vsec1_any B R D P q ce g c w.heap.size (w.heap.size + 1) (w.heap.size + 2) n (.slice none 0 0) _ HR.out HP.out (Nat.le_trans hBw HX.out.size) (scW_0 w R) (scW_1 w R) (scW_2 w R) (by omega))).mono ?_); rintro e W3 ⟨rfl, hR1, ⟨v', bb', hR2, hR3⟩, hR4⟩; obtain ⟨va, vc, rfl⟩ := own_shape hR3; rw [xL_len] at hR2 hR3; have HR1 := Lib.hid hR1; have HR3 := Lib.hid hR3; have HR4 := Lib.hid hR4; have d0 := hR2.cell 0 rfl; have ld := hR2.lt; clear hR1 hR2 hR3 hR4)
  go_ret2
  exact ⟨va, vc, bb', rfl, HR1.out, HR3.out, Chx.fresh (Chg.ext HX.out hBw) HR4.out (by omega)⟩
end Go.Proofs.YtjabgpejmnpamaaGreatDoor

namespace Go.Proofs.YtjabgpejmnpamaaGreatDoor
open Go.RowKit Go.Shelf
set_option maxRecDepth 100000
abbrev e0C : Array Value := #[.int .i64 0, .int .i64 0, .int .u64 0, .int .u8 0, .int .u8 0, .int .u8 0, .int .u8 0, .int .u8 0, .int .u8 0, .int .u8 0, .int .u8 0]
abbrev b8C : Array Value := #[.int .u8 9, .int .u8 0, .int .u8 0, .int .u8 0, .int .u8 0, .int .u8 0, .int .u8 0, .int .u8 0]
def Ent1 (w : World) (q : Nat) : Prop := ∃ EA, BoxAt w q EA 154 ∧ EA[3]? = some (.int .i64 1) ∧ EA[4]? = some (.int .u64 5) ∧ EA[5]? = some (.int .i64 60)
theorem Ent1.ext {w w' : World} {q : Nat} (h : Ent1 w q) (e : Ext w w') : Ent1 w' q := by
  obtain ⟨EA, h1, h2⟩ := h
  exact ⟨EA, h1.ext e, h2⟩
set_option maxHeartbeats 8000000 in
theorem vfetch_any (B R D P q ce g c : Nat) (n : Cn) (w : World) (h : BoxAt w R (dvC D q ce g c 1) 144) (he : Ent1 w q) (hp : Pw B w D P n xL) (hBw : B ≤ w.heap.size) :
    Calls Tryz.prog 66 #[.pointer (some ⟨R, 0, none⟩), .int .i64 1] w fun e w' => e = .returned (.tuple #[xV, .int .i64 0]) ∧ Pw B w' D P n xL ∧ Chg B TTd w w' := by
  have HX := Lib.hid (Ext.alloc w (.cells e0C 151))
  have HB0 := Lib.hid (BoxAt.new w e0C 151)
  have HR := Lib.hid (h.ext HX.out)
  have HP := Lib.hid (hp.ext HX.out)
  obtain ⟨EA, hea, e3, e4, e5⟩ := he
  have r2 := HR.out.cell 2 (v := .slice (some ⟨q, 0, none⟩) 4 ce) rfl
  have mr := HR.out.lt
  have y3 := (hea.ext HX.out).cell 3 e3
  have y4 := (hea.ext HX.out).cell 4 e4
  have y5 := (hea.ext HX.out).cell 5 e5
  have mq := (hea.ext HX.out).lt
  have hn0 := BoxAt.new (w.alloc (.cells e0C 151)) #[.int .i64 0, .int .u64 0, .int .i64 0] 154
  rw [World.size_alloc] at hn0
  have HN0 := Lib.hid hn0
  clear h hp hea e3 e4 e5 hn0
  go_enter Tryz.func66, Tryz.ntmps66
  go_wp2_with first | (refine wpList_store_box 154 _ _ rfl (by rfl) rfl rfl HN0.out rfl (by kernel_rfl) (by simp [Value.oneCell']) ?_; intro W1 hS; have HX1 := Lib.hid (show Ext (w.alloc (.cells e0C 151)) W1 from hS.bel (Ext.alloc _ _) (by simp)); have HN1 : Hid (BoxAt W1 _ #[.int .i64 1, .int .u64 5, .int .i64 60] 154) := Lib.hid hS.box; have a2 := HN1.out.cell 2 (v := .int .i64 60) rfl; have ma := HN1.out.lt; clear hS r2 mr y3 y4 y5 mq) | (go_at_call 120; go_loud (refine (vsec_any B R D P q ce g c n _ (HR.out.ext HX1.out) (HP.out.ext HX1.out) (Nat.le_trans hBw (Nat.le_trans HX.out.size HX1.out.size))).mono ?_); rintro e W2 ⟨va, vc, bb', rfl, hpw, ho, hch⟩; have HPW := Lib.hid hpw; have HO := Lib.hid ho; have HCH := Lib.hid hch; have HN2 := Lib.hid (HN1.out.chg hch (by decide)); have HB2 := Lib.hid ((HB0.out.ext HX1.out).chg hch (by decide)); clear hpw ho hch a2 ma) | (go_at_call 121; go_loud (refine (xdec_any (.slice va 37 vc) _ (OwnB.slice HO.out)).mono ?_); rintro e W3 ⟨rfl, hx3⟩; have HX3 := Lib.hid hx3; have HN3 := Lib.hid (HN2.out.ext hx3); have HB3 := Lib.hid (HB2.out.ext hx3); clear hx3) | (refine wpList_store_box 151 _ _ rfl (by rfl) rfl rfl (BoxAt.new W3 e0C 151) rfl (by kernel_rfl) (by simp [Value.oneCell']) ?_; intro W4 hS; have HX4 := Lib.hid (show Ext W3 W4 from hS.bel (Ext.alloc _ _) (Nat.le_refl _)); have HS4 := Lib.hid hS.box; have HB4 := Lib.hid (HB3.out.ext HX4.out); have n4 := HN3.out.ext HX4.out; have a0 := n4.cell 0 (v := .int .i64 1) rfl; have a1 := n4.cell 1 (v := .int .u64 5) rfl; have ma := n4.lt; have x0 := hS.box.cell 0 (v := .int .i64 1) rfl; have x1 := hS.box.cell 1 (v := .int .i64 1) rfl; have x2 := hS.box.cell 2 (v := .int .u64 5) rfl; have x3 := hS.box.cell 3 (v := .int .u8 9) rfl; have x4 := hS.box.cell 4 (v := .int .u8 0) rfl; have x5 := hS.box.cell 5 (v := .int .u8 0) rfl; have x6 := hS.box.cell 6 (v := .int .u8 0) rfl; have x7 := hS.box.cell 7 (v := .int .u8 0) rfl; have x8 := hS.box.cell 8 (v := .int .u8 0) rfl; have x9 := hS.box.cell 9 (v := .int .u8 0) rfl; have x10 := hS.box.cell 10 (v := .int .u8 0) rfl; have mx := hS.box.lt; clear hS n4) | (refine wpList_store_box 151 _ _ rfl (by rfl) rfl rfl HB4.out rfl (by kernel_rfl) (by simp [Value.oneCell']) ?_; intro W5 hS; have HS5 := Lib.hid hS; clear hS)
  refine bodyPost_ret (results_cell_tmpA rfl _ _ rfl (box_result HS5.out.box Tryz.underlying151 rfl (by kernel_rfl))) rfl ⟨rfl, ?_, ?_⟩
  · have h5 : Chg 0 [151] W4 W5 := (Chg.refl _ _ _).stored HB4.out HS5.out (by simp) (Nat.zero_le _)
    exact ((HPW.out.ext HX3.out).ext HX4.out).chg h5 (by decide)
  · have c2 : Chg B TTd w W2 := (Chg.ext (HX.out.trans HX1.out) hBw).trans HCH.out
    exact ((c2.more HX3.out hBw).more HX4.out hBw).fresh hBw HS5.out (Nat.le_refl _)
abbrev z8C : Array Value := #[.int .u8 0, .int .u8 0, .int .u8 0, .int .u8 0, .int .u8 0, .int .u8 0, .int .u8 0, .int .u8 0]
set_option maxHeartbeats 8000000 in
theorem vread_any (B R D P q ce g c : Nat) (n : Cn) (w : World) (h : BoxAt w R (dvC D q ce g c 1) 144) (he : Ent1 w q) (hp : Pw B w D P n xL) (hBw : B ≤ w.heap.size) :
    Calls Tryz.prog 27 #[.pointer (some ⟨R, 0, none⟩), .int .i64 1] w fun e w' => e = .returned (.tuple #[.int .u64 5, .agg b8C, .int .i64 0]) ∧ Chg B TTd w w' := by
  have HX := Lib.hid (Ext.alloc w (.cells z8C 76))
  have HB0 := Lib.hid (BoxAt.new w z8C 76)
  have HR := Lib.hid (h.ext HX.out)
  have HP := Lib.hid (hp.ext HX.out)
  have HE := Lib.hid (he.ext HX.out)
  obtain ⟨EA, hea, e3, e4, e5⟩ := he
  have r2 := HR.out.cell 2 (v := .slice (some ⟨q, 0, none⟩) 4 ce) rfl
  have mr := HR.out.lt
  have y3 := (hea.ext HX.out).cell 3 e3
  have y5 := (hea.ext HX.out).cell 5 e5
  have mq := (hea.ext HX.out).lt
  clear h hp hea e3 e4 e5
  go_enter Tryz.func27, Tryz.ntmps27
  go_wp2_with first | (go_at_call 64; refine (vstate_any R D q ce g c 1 _ HR.out).mono ?_; rintro e w' ⟨rfl, rfl⟩) | (go_at_call 65; refine (vhas_any R D q ce g c 1 _ HR.out).mono ?_; rintro e w' ⟨rfl, rfl⟩) | (go_at_call 66; go_loud (refine (vfetch_any B R D P q ce g c n _ HR.out HE.out HP.out (Nat.le_trans hBw HX.out.size)).mono ?_); rintro e W2 ⟨rfl, hpw, hch⟩; have HC2 : Hid (Chg B TTd w W2) := Lib.hid ((Chg.ext HX.out hBw).trans hch); have HB2 := Lib.hid (HB0.out.chg hch (by decide)); clear hpw hch r2 mr y3 y5 mq) | (refine wpList_store_box 151 _ _ rfl (by rfl) rfl rfl (BoxAt.new W2 e0C 151) rfl (by kernel_rfl) (by simp [Value.oneCell']) ?_; intro W4 hS; have HX4 := Lib.hid (show Ext W2 W4 from hS.bel (Ext.alloc _ _) (Nat.le_refl _)); have HS4 := Lib.hid hS.box; have HB4 := Lib.hid (HB2.out.ext HX4.out); have x2 := hS.box.cell 2 (v := .int .u64 5) rfl; have x3 := hS.box.cell 3 (v := .int .u8 9) rfl; have x4 := hS.box.cell 4 (v := .int .u8 0) rfl; have x5 := hS.box.cell 5 (v := .int .u8 0) rfl; have x6 := hS.box.cell 6 (v := .int .u8 0) rfl; have x7 := hS.box.cell 7 (v := .int .u8 0) rfl; have x8 := hS.box.cell 8 (v := .int .u8 0) rfl; have x9 := hS.box.cell 9 (v := .int .u8 0) rfl; have x10 := hS.box.cell 10 (v := .int .u8 0) rfl; have mx := hS.box.lt; clear hS)
  refine wp_region_exq [(0, true), (1, true), (2, true), (3, true), (4, true), (5, false), (6, true)] (by kernel_rfl) (by kernel_rfl) ?_
  iterate 5 ((first
   | refine exq_move rfl rfl (by rfl) (by rfl) ?_
   | refine exq_assign rfl rfl (by rfl) (by rfl) ?_
   | refine exq_pick_t rfl rfl (by rfl) (by rfl) (by rfl) ?_
   | refine exq_pick_f rfl rfl (by rfl) (by rfl) (by rfl) ?_
   | (apply exq_take rfl (by rfl)
      · intro w' hS
        have hSc := hS.cells
        (try simp only [World.size_drew, World.cell?_drew] at hSc)
        go_simp
        (try simp (disch := omega) only [i64_id, u64_id, ↓IntWalk.iteOmega, Int.tdiv_eq_ediv_of_nonneg, Int.tmod_eq_emod_of_nonneg])
        try rfl)
   | refine exq_pass rfl (by rfl) ?_); simp only [Act.put, setZa, setZ0, setZ1])
  (refine exq_store rfl (by rfl) (by kernel_rfl) (fun K hK => ?_)
   refine wp_of_list rfl ?_
   refine wpList_store_box 76 _ _ rfl (by rfl) rfl rfl (HB4.out.ext (Ext.drew _)) rfl (by kernel_rfl) (by simp [Value.oneCell']) ?_
   intro W5 hS
   have HS5 := Lib.hid hS
   refine hK _ _ ?_
   clear hK K hS
   (try simp only [Act.put]))
  iterate 1 ((first
   | refine exq_move rfl rfl (by rfl) (by rfl) ?_
   | refine exq_assign rfl rfl (by rfl) (by rfl) ?_
   | refine exq_pick_t rfl rfl (by rfl) (by rfl) (by rfl) ?_
   | refine exq_pick_f rfl rfl (by rfl) (by rfl) (by rfl) ?_
   | (apply exq_take rfl (by rfl)
      · intro w' hS
        have hSc := hS.cells
        (try simp only [World.size_drew, World.cell?_drew] at hSc)
        go_simp
        (try simp (disch := omega) only [i64_id, u64_id, ↓IntWalk.iteOmega, Int.tdiv_eq_ediv_of_nonneg, Int.tmod_eq_emod_of_nonneg])
        try rfl)
   | refine exq_pass rfl (by rfl) ?_); simp only [Act.put, setZa, setZ0, setZ1])
  refine exq_nil ?_
  go_wp2_with fail
  refine bodyPost_ret (results_tct rfl _ _ rfl (box_result HS5.out.box Tryz.underlying76 rfl (by kernel_rfl))) rfl ⟨rfl, ?_⟩
  exact ((HC2.out.more HX4.out hBw).more (Ext.drew _) hBw).fresh hBw HS5.out (Nat.le_refl _)
end Go.Proofs.YtjabgpejmnpamaaGreatDoor

namespace Go.Proofs.YtjabgpejmnpamaaGreatDoor
open Go.RowKit Go.Shelf
set_option maxRecDepth 100000
theorem Small.ext {w w' : World} (h : Small w) (e : Ext w w') : Small w' := by
  obtain ⟨h0, h1, h2, h3, h4, h5⟩ := h
  exact ⟨Nat.lt_of_lt_of_le h0 e.size, (e.cell _ _ h0).trans h1, (e.cell _ _ h0).trans h2, (e.cell _ _ h0).trans h3, (e.cell _ _ h0).trans h4, (e.cell _ _ h0).trans h5⟩
theorem own_entries {w : World} {B : Nat} {ve : Value} (h : OwnN w B ve 4) : ∃ q ce, ve = .slice (some ⟨q, 0, none⟩) 4 ce ∧ B ≤ q ∧ Ent w q := by
  rcases h.2 with ⟨_, h2⟩ | ⟨q, cap, cur, h1, h2, h3, _, _, _, h7⟩
  · exact absurd h2 (by decide)
  · exact ⟨q, cap, h1, h2, cur, h3, h7⟩
theorem eq_nine (w : World) : (Op.equalIn 10000 76 (.agg b8C) (.agg b8C)).run Tryz.prog w = .ok true w := by
  have h := run_equalIn_block (P := Tryz.prog) w 9998 Tryz.underlying76 Tryz.underlying5 size8u [9#8, 0#8, 0#8, 0#8, 0#8, 0#8, 0#8, 0#8] [9#8, 0#8, 0#8, 0#8, 0#8, 0#8, 0#8, 0#8] rfl rfl
  rw [eqB_self] at h
  exact h
def l31 : Lab := ⟨0#64, 0, 1#64, 0#64, ⟨5, 4, 1, 0, 60, 4, 2, 3, 1, 10, 20⟩, 0, 0#64, 0#64⟩
def x31 : List Bool := [false, false, false, false, false]
theorem enc31 : encN' l31 x31 = 0 ∧ (encR l31 x31).length = 1 := by decide +kernel
theorem run_make_b5 (w : World) : (Instr.makeSlice 27 (.int .i64 5) (.int .i64 5)).run Tryz.prog w = .ok (.slice (some ⟨w.heap.size, 0, none⟩) 5 5) (w.alloc (.cells (madeCells #[.bool false] 5) 4)) := by
  obtain ⟨i0, hi, hz0, hz1, hz2⟩ := info_parts (show (Tryz.prog.info? 4).map (fun i => (i.zero, i.size, i.bytes)) = some (some (.bool false), 1, 1) by kernel_rfl)
  have h := run_make (P := Tryz.prog) w 27 4 i0 _ Tryz.underlying27 hi hz0 .i64 .i64 5 5 (by decide) (by decide) (by rw [hz2]; decide) (by decide)
  rw [hz1] at h
  exact h
theorem made_b5 : madeCells #[.bool false] 5 = #[.bool false, .bool false, .bool false, .bool false, .bool false] := by
  refine Array.ext (by simp [madeCells]) (fun i h1 h2 => ?_)
  simp at h2
  match i, h2 with
  | 0, _ => simp [madeCells]
  | 1, _ => simp [madeCells]
  | 2, _ => simp [madeCells]
  | 3, _ => simp [madeCells]
  | 4, _ => simp [madeCells]
set_option maxHeartbeats 8000000 in
theorem awake31_any (w : World) (hs : Small w) : Calls Tryz.prog 5 #[] w fun e w' => e = .returned (.bool true) ∧ Ext w w' := by
  have hmk := run_make_b5
  simp only [made_b5] at hmk
  obtain ⟨hen0, hen1⟩ := enc31
  have HE0 := Lib.hid hen0
  have HE1 := Lib.hid hen1
  clear hen0 hen1
  have hEq := eq_nine
  have HS := Lib.hid hs
  clear hs
  go_enter Tryz.func5, Tryz.ntmps5
  go_wp2_with first | (go_at_call 22; refine (awake25_any _).mono ?_; rintro e W1 ⟨rfl, hx1⟩; have HX1 := Lib.hid hx1; clear hx1) | (go_at_call 23; refine (newPower_any _).mono ?_; rintro e W2 ⟨rfl, hw2⟩; have HX2 : Hid (Ext w W2) := Lib.hid (by rw [hw2]; exact HX1.out.trans (Ext.alloc _ _)); have HP2 : Hid (BoxAt W2 W1.heap.size (pwC 0) 124) := Lib.hid (by rw [hw2]; exact BoxAt.new _ _ _); obtain ⟨hs0, hs1, hs2, hs3, hs4, hs5⟩ := HS.out.ext HX2.out; clear hw2) | (go_at_call 24; go_loud (refine (dnew_any w.heap.size W1.heap.size _ HP2.out HX1.out.size).mono ?_); rintro e W3 ⟨D, n, rfl, hph, hx3⟩; have HPH := Lib.hid hph; have HX3 := Lib.hid (HX2.out.trans hx3); clear hph hx3 hs0 hs1 hs2 hs3 hs4 hs5) | (go_at_call 25; go_loud (refine (dvnew_any w.heap.size D W1.heap.size n _ HPH.out HX3.out.size).mono ?_); rintro e W4 ⟨R, ve, g, rfl, hr, ho, hb, hp4, hR, hc4⟩; obtain ⟨q, ce, rfl, hq, hen⟩ := own_entries ho; have HR4 := Lib.hid hr; have HE4 := Lib.hid hen; have HB4 := Lib.hid hb; have HP4 := Lib.hid hp4; have HC4 := Lib.hid hc4; have HGR := Lib.hid hR; have HGQ := Lib.hid hq; clear hr ho hb hp4 hc4 hen hR hq) | (go_at_call 26; go_loud (refine (vwrite_any w.heap.size R D W1.heap.size q ce g 5 n _ HR4.out HE4.out HB4.out HP4.out (Nat.le_trans HX3.out.size HC4.out.size) (Nat.le_trans HX3.out.size HGR.out) (Nat.le_trans HX3.out.size HGQ.out)).mono ?_); rintro e W5 ⟨rfl, hwp⟩; have HWp := Lib.hid hwp; obtain ⟨g', c', hr5⟩ := hwp.box; have HR5 := Lib.hid hr5; clear hwp hr5) | (go_at_call 27; go_loud (refine (vread_any w.heap.size R D W1.heap.size q ce g' c' n _ HR5.out HWp.out.ent HWp.out.dsk (Nat.le_trans HX3.out.size (Nat.le_trans HC4.out.size HWp.out.chg.size))).mono ?_); rintro e W6 ⟨rfl, hc6⟩; have HX6 := Lib.hid (show Ext w W6 from HX3.out.below.trans (((HC4.out.wide (by decide)).trans (HWp.out.chg.trans (hc6.wide (by decide))) : Chg w.heap.size (144 :: 154 :: TTd) W3 W6).bel)); clear hc6) | (refine wpList_store_box 76 _ _ rfl (by rfl) rfl rfl (BoxAt.new W6 z8C 76) rfl (by kernel_rfl) (by simp [Value.oneCell']) ?_; intro W7 hS; have HX7 := Lib.hid (show Ext w W7 from hS.bel (HX6.out.trans (Ext.alloc _ _)) HX6.out.size); have HB7 := Lib.hid hS.box; have HSl := Lib.hid (SliceAt.lit (enc := Value.bool) W7 x31 4 (0, 0) #[.bool false, .bool false, .bool false, .bool false, .bool false] rfl); clear hS) | (go_at_call 7; go_loud (refine (encode_any l31 (.slice (some ⟨W7.heap.size, 0, none⟩) 5 5) x31 _ (by decide) HSl.out).mono ?_); rintro e W8 ⟨v8, rfl, ho8, hx8⟩; rw [HE0.out]; obtain ⟨va8, vc8, rfl⟩ := ho8.shape; rw [HE1.out]; have HX8 := Lib.hid ((HX7.out.trans (Ext.alloc _ _)).trans hx8); have hb8 := (HB7.out.ext (Ext.alloc _ _)).ext hx8; have y0 := hb8.cell 0 (v := .int .u8 9) rfl; have y1 := hb8.cell 1 (v := .int .u8 0) rfl; have y2 := hb8.cell 2 (v := .int .u8 0) rfl; have y3 := hb8.cell 3 (v := .int .u8 0) rfl; have y4 := hb8.cell 4 (v := .int .u8 0) rfl; have y5 := hb8.cell 5 (v := .int .u8 0) rfl; have y6 := hb8.cell 6 (v := .int .u8 0) rfl; have y7 := hb8.cell 7 (v := .int .u8 0) rfl; have my := hb8.lt; clear ho8 hx8 hb8)
  go_ret
  exact ⟨rfl, HX8.out⟩
end Go.Proofs.YtjabgpejmnpamaaGreatDoor
