/-
  Part 31 of the proof.
-/
import Derived.Test.YtjabgpejmnpamaaGreatDoorY28
set_option linter.unusedVariables false
namespace Go.Proofs.YtjabgpejmnpamaaGreatDoor
open Go.RowKit
set_option maxRecDepth 100000
theorem mk5 : (#[.slice none 0 0, .slice none 0 0, .slice none 0 0, .slice none 0 0, .slice none 0 0] : Array Value) = madeCells #[.slice none 0 0] 5 := by
  refine Array.ext (by simp [madeCells]) (fun i h1 h2 => ?_)
  have h : i < 5 := h1
  simp only [madeCells, Array.getElem_map, Array.getElem_range]
  match i, h with
  | 0, _ => rfl
  | 1, _ => rfl
  | 2, _ => rfl
  | 3, _ => rfl
  | 4, _ => rfl
theorem box_load0 {P : Program} {w : World} {g : Nat} {ty t : TypeId} {cs : Array Value} {d : TypeDesc} (h : BoxAt w g cs t) (hu : P.underlying ty = some d) (hd : d.isRow = true) (hi : (P.info? ty).map (·.size) = some cs.size) :
    (Instr.loadAt ty (.pointer (some ⟨g, 0, none⟩))).run P w = .ok (.agg cs) w := by
  have := box_load (P := P) (o := 0) (part := cs.toList) h (fun j v hv => by rw [Nat.zero_add]; simpa using hv) hu hd (by simpa using hi)
  simpa using this
abbrev mCx (ra ro rc gon : Nat) (rk : Value) : Array Value := #[.int .i64 5, .slice (some ⟨ra, ro, none⟩) 5 rc, .int .i64 1, .int .i64 0, .int .i64 4, .int .i64 4, .int .i64 5, rk, .slice (some ⟨gon, 0, none⟩) 5 5, .int .i64 4, .int .i64 4]
def MeasEnd (rv : Value) (w : World) (e : Ending) (w' : World) : Prop := ∃ a2 n2 c2 a3 n3 c3, e = .returned (.tuple #[.agg (numC rv (.slice a2 n2 c2) (.slice a3 n3 c3) 4 4), .bool true]) ∧ Ext w w'
set_option maxHeartbeats 8000000 in
theorem measure_any (ra ro rc : Nat) (q : Nat → Nat × Nat × Nat) (w : World) (h : Rows54 w ra ro rc q) :
    Calls Tryz.prog 155 #[.agg #[.int .i64 5, .slice (some ⟨ra, ro, none⟩) 5 rc, .int .i64 1, .int .i64 0]] w (MeasEnd (.slice (some ⟨ra, ro, none⟩) 5 rc) w) := by
  have HR := Lib.hid h
  clear h
  go_enter Tryz.func155, Tryz.ntmps155
  have hb1 := BoxAt.new w #[.int .i64 5, .slice (some ⟨ra, ro, none⟩) 5 rc, .int .i64 1, .int .i64 0] 122
  have HB1 := Lib.hid hb1
  clear hb1
  go_wp2_with (go_at_call 208; refine (check_any ra ro rc q _ (HR.out.ext ((Ext.alloc _ _).trans (Ext.alloc _ _)))).mono ?_; rintro e W1 ⟨rfl, hx1⟩)
  have hb1 : BoxAt W1 w.heap.size #[.int .i64 5, .slice (some ⟨ra, ro, none⟩) 5 rc, .int .i64 1, .int .i64 0] 122 := HB1.out.ext ((Ext.alloc _ _).trans hx1)
  have hb2 : BoxAt W1 (w.heap.size + 1) #[.int .i64 0, .slice none 0 0, .int .i64 0, .int .i64 0, .int .i64 0, .int .i64 0, .int .i64 0, .slice none 0 0, .slice none 0 0, .int .i64 0, .int .i64 0] 264 := by
    have := BoxAt.new (w.alloc (.cells #[.int .i64 5, .slice (some ⟨ra, ro, none⟩) 5 rc, .int .i64 1, .int .i64 0] 122)) #[.int .i64 0, .slice none 0 0, .int .i64 0, .int .i64 0, .int .i64 0, .int .i64 0, .int .i64 0, .slice none 0 0, .slice none 0 0, .int .i64 0, .int .i64 0] 264
    rw [World.size_alloc] at this
    exact this.ext hx1
  have e1 : Ext w W1 := (Ext.alloc _ _).trans ((Ext.alloc _ _).trans hx1)
  have HRW := HR.out.ext e1
  obtain ⟨g1, hg1⟩ : ∃ g, w.heap.size = g := ⟨_, rfl⟩
  obtain ⟨g2, hg2⟩ : ∃ g, g1 + 1 = g := ⟨_, rfl⟩
  rw [hg1] at hb1 hb2 ⊢
  rw [hg2] at hb2 ⊢
  have HG1 := Lib.hid hg1
  have HG2 := Lib.hid hg2
  have HBA := Lib.hid hb1
  have HBB := Lib.hid hb2
  have c0 := hb1.cell 0 (v := .int .i64 5) rfl
  have c1 := hb1.cell 1 (v := .slice (some ⟨ra, ro, none⟩) 5 rc) rfl
  have c2 := hb1.cell 2 (v := .int .i64 1) rfl
  have c3 := hb1.cell 3 (v := .int .i64 0) rfl
  have r0 := HRW.row 0 (by decide)
  rw [Nat.add_zero] at r0
  have lra := HRW.lt
  have l1 := hb1.lt
  have hcap := HRW.cap
  have HE1 := Lib.hid e1
  have HRV := Lib.hid HRW
  generalize q 0 = z0 at r0
  obtain ⟨b0, o0, q0⟩ := z0
  simp only at r0
  clear hx1 HB1 hg1 hg2 hb1 hb2 e1 HRW
  refine wp_region_ext [(0, true), (1, true), (2, true), (3, true), (4, true), (5, true), (6, true), (7, true), (8, true), (9, true), (10, true), (11, true), (12, true), (13, false), (14, false)] (by kernel_rfl) (by kernel_rfl) ?_
  iterate 13 ((first
   | refine ext_move rfl rfl (by rfl) (by rfl) ?_
   | refine ext_assign rfl rfl (by rfl) (by rfl) ?_
   | refine ext_pick_t rfl rfl (by rfl) (by rfl) (by rfl) ?_
   | refine ext_pick_f rfl rfl (by rfl) (by rfl) (by rfl) ?_
   | (apply ext_take rfl (by rfl)
      · intro w' hS
        have hSc := hS.cells
        (try simp only [World.size_drew, World.cell?_drew] at hSc)
        go_simp
        (try simp (disch := omega) only [i64_id, u64_id, ↓IntWalk.iteOmega, Int.tdiv_eq_ediv_of_nonneg, Int.tmod_eq_emod_of_nonneg])
        try rfl)
   | refine ext_pass rfl (by rfl) ?_); simp only [Act.put, setZa, setZ0, setZ1])
  (refine ext_do rfl (by rfl) (fun K hK => ?_)
   go_simp
   refine hK _ _ (by first | exact Ext.alloc _ _ | exact (Ext.drew _).trans (Ext.alloc _ _)) ?_
   clear hK K
   (try simp only [Act.put, setZa, setZ0, setZ1]))
  (refine ext_last rfl (by rfl) (by kernel_rfl) (fun K hK => ?_)
   refine wp_of_list rfl ?_
   refine wpList_store_box 264 _ _ rfl (by rfl) rfl rfl (BoxAt.new W1.drew #[.int .i64 0, .slice none 0 0, .int .i64 0, .int .i64 0, .int .i64 0, .int .i64 0, .int .i64 0, .slice none 0 0, .slice none 0 0, .int .i64 0, .int .i64 0] 264) rfl (by kernel_rfl) (by simp [Value.oneCell']) ?_
   intro W2 hS2
   refine hK _ _ ?_
   clear hK K
   (try simp only [Act.put]))
  have e2 : Ext W1 W2 := hS2.bel (show Ext W1 _ from (Ext.drew _).trans (Ext.alloc _ _)) (Nat.le_refl _)
  have hx2 := hS2.box
  have HE2 := Lib.hid e2
  obtain ⟨gx, hgx⟩ : ∃ g, W1.heap.size = g := ⟨_, rfl⟩
  have hx2' : BoxAt W2 gx #[.int .i64 5, .slice (some ⟨ra, ro, none⟩) 5 rc, .int .i64 1, .int .i64 0, .int .i64 4, .int .i64 4, .int .i64 5, .slice none 0 0, .slice none 0 0, .int .i64 0, .int .i64 0] 264 := by rw [← hgx]; exact hx2
  have hg1x : g1 < gx := by rw [← hgx]; exact l1
  have hg2x : g2 < gx := by rw [← hgx]; exact HBB.out.lt
  have hgx' : (W1.drew).heap.size = gx := hgx
  rw [hgx]
  clear c0 c1 c2 c3 hS2 hx2 l1 r0 lra
  have HBX := Lib.hid hx2'
  have HGX := Lib.hid hgx
  have hb1 := HBA.out.ext e2
  have c0 := hb1.cell 0 (v := .int .i64 5) rfl
  have c1 := hb1.cell 1 (v := .slice (some ⟨ra, ro, none⟩) 5 rc) rfl
  have c2 := hb1.cell 2 (v := .int .i64 1) rfl
  have c3 := hb1.cell 3 (v := .int .i64 0) rfl
  have x4 := hx2'.cell 4 (v := .int .i64 4) rfl
  have x6 := hx2'.cell 6 (v := .int .i64 5) rfl
  have x9 := hx2'.cell 9 (v := .int .i64 0) rfl
  have x10 := hx2'.cell 10 (v := .int .i64 0) rfl
  have f9 := hx2'.free 9
  have f10 := hx2'.free 10
  have lx := hx2'.lt
  have l1 := hb1.lt
  have ne1 : g1 ≠ gx := by omega
  clear hb1 hx2' e2 hgx hgx'
  go_wp2_with fail
  have hbx : BoxAt ((W2.setCell ⟨gx, 9, none⟩ (.int .i64 4)).setCell ⟨gx, 10, none⟩ (.int .i64 4)) gx #[.int .i64 5, .slice (some ⟨ra, ro, none⟩) 5 rc, .int .i64 1, .int .i64 0, .int .i64 4, .int .i64 4, .int .i64 5, .slice none 0 0, .slice none 0 0, .int .i64 4, .int .i64 4] 264 := (HBX.out.set 9 (.int .i64 4)).set 10 (.int .i64 4)
  have e3 : Below gx W2 ((W2.setCell ⟨gx, 9, none⟩ (.int .i64 4)).setCell ⟨gx, 10, none⟩ (.int .i64 4)) := bel_set (bel_set (Below.refl _ _) (Nat.le_refl _) _ _) (Nat.le_refl _) _ _
  clear c0 c1 c2 c3 x4 x6 x9 x10 f9 f10 lx l1
  generalize ((W2.setCell ⟨gx, 9, none⟩ (.int .i64 4)).setCell ⟨gx, 10, none⟩ (.int .i64 4)) = W3 at *
  have hge := HE2.out.size
  have e13 : Ext W1 W3 := Below.trans HE2.out (Below.mono e3 (by have := HGX.out; omega))
  have hb1 := HBA.out.ext e13
  have c0 := hb1.cell 0 (v := .int .i64 5) rfl
  have c1 := hb1.cell 1 (v := .slice (some ⟨ra, ro, none⟩) 5 rc) rfl
  have c2 := hb1.cell 2 (v := .int .i64 1) rfl
  have l1 := hb1.lt
  have x0 := hbx.cell 0 (v := .int .i64 5) rfl
  have x1 := hbx.cell 1 (v := .slice (some ⟨ra, ro, none⟩) 5 rc) rfl
  have x2 := hbx.cell 2 (v := .int .i64 1) rfl
  have x3 := hbx.cell 3 (v := .int .i64 0) rfl
  have x4 := hbx.cell 4 (v := .int .i64 4) rfl
  have x5 := hbx.cell 5 (v := .int .i64 4) rfl
  have x6 := hbx.cell 6 (v := .int .i64 5) rfl
  have x7 := hbx.cell 7 (v := .slice none 0 0) rfl
  have x8 := hbx.cell 8 (v := .slice none 0 0) rfl
  have x9 := hbx.cell 9 (v := .int .i64 4) rfl
  have x10 := hbx.cell 10 (v := .int .i64 4) rfl
  have lx := hbx.lt
  have HX3 := Lib.hid hbx
  have HE13 := Lib.hid e13
  clear hbx e3 e13 hb1 hge
  refine wp_region_ext [(0, true), (1, true), (2, true), (3, true), (4, true), (5, true), (6, true), (7, true), (8, true), (9, true), (10, true), (11, true), (12, true), (13, false), (14, true), (15, true), (16, true), (17, true), (18, true), (19, true), (20, true), (21, true)] (by kernel_rfl) (by kernel_rfl) ?_
  iterate 13 ((first
   | refine ext_move rfl rfl (by rfl) (by rfl) ?_
   | refine ext_assign rfl rfl (by rfl) (by rfl) ?_
   | refine ext_pick_t rfl rfl (by rfl) (by rfl) (by rfl) ?_
   | refine ext_pick_f rfl rfl (by rfl) (by rfl) (by rfl) ?_
   | (apply ext_take rfl (by rfl)
      · intro w' hS
        have hSc := hS.cells
        (try simp only [World.size_drew, World.cell?_drew] at hSc)
        go_simp
        (try simp (disch := omega) only [i64_id])
        try rfl)
   | refine ext_pass rfl (by rfl) ?_); simp only [Act.put, setZa, setZ0, setZ1])
  (refine ext_do rfl (by rfl) (fun K hK => ?_)
   go_simp
   go_at_call 157
   refine (ldata_any (some ⟨ra, ro, none⟩) none none 5 0 0 rc 0 0 4 4 _).mono ?_
   rintro e W4 ⟨rfl, hx4⟩
   have e4 : Ext W3 W4 := by first | exact hx4 | exact (Ext.drew _).trans hx4
   have y10 := (Below.cell e4 (p := ⟨gx, 10, none⟩) lx).trans x10
   have ly := Nat.lt_of_lt_of_le lx e4.size
   refine hK _ _ (by first | exact hx4 | exact e4) ?_
   clear hK K
   (try simp only [Act.put, setZa, setZ0, setZ1]))
  iterate 8 ((first
   | refine ext_move rfl rfl (by rfl) (by rfl) ?_
   | refine ext_assign rfl rfl (by rfl) (by rfl) ?_
   | refine ext_pick_t rfl rfl (by rfl) (by rfl) (by rfl) ?_
   | refine ext_pick_f rfl rfl (by rfl) (by rfl) (by rfl) ?_
   | (apply ext_take rfl (by rfl)
      · intro w' hS
        have hSc := hS.cells
        (try simp only [World.size_drew, World.cell?_drew] at hSc)
        go_simp
        (try simp (disch := omega) only [i64_id])
        try rfl)
   | refine ext_pass rfl (by rfl) ?_); simp only [Act.put, setZa, setZ0, setZ1])
  refine ext_nil ?_
  have hb4 := HX3.out.ext e4
  have e14 : Ext W1 W4 := HE13.out.trans e4
  have hbl := HBA.out.ext e14
  have h0 := hbl.cell 0 (v := .int .i64 5) rfl
  have h1 := hbl.cell 1 (v := .slice (some ⟨ra, ro, none⟩) 5 rc) rfl
  have k1 := hbl.lt
  have k8 := hb4.cell 8 (v := .slice none 0 0) rfl
  have f8 := hb4.free 8
  have HX4 := Lib.hid hb4
  have HE14 := Lib.hid e14
  clear c0 c1 c2 l1 x0 x1 x2 x3 x4 x5 x6 x7 x8 x9 x10 lx hx4 e4 hb4 e14 hbl y10
  obtain ⟨j0, hj, hj0, hj1, hj2⟩ := info_parts infoS
  obtain ⟨i0, hii, hii0, hii1, hii2⟩ := info_parts infoN
  have hmk : ∀ w : World, (Instr.makeSlice 115 (.int .i64 5) (.int .i64 5)).run Tryz.prog w = .ok (.slice (some ⟨w.heap.size, 0, none⟩) 5 5) (w.alloc (.cells (madeCells #[.slice none 0 0] 5) 40)) :=
    run_make_row' 115 40 (.slice none 0 0) 24 Tryz.underlying115 infoS rfl .i64 .i64 5 (by omega) (by first | omega | (unfold maxLen; omega))
  have ne8 : gx ≠ W4.heap.size := by omega
  go_wp2_with fail
  obtain ⟨gon, hgon⟩ : ∃ g, W4.heap.size = g := ⟨_, rfl⟩
  rw [hgon] at ne8 ⊢
  have hbx : BoxAt ((W4.setCell ⟨gx, 8, none⟩ (.slice (some ⟨gon, 0, none⟩) 5 5)).alloc (.cells (madeCells #[.slice none 0 0] 5) 40)) gx #[.int .i64 5, .slice (some ⟨ra, ro, none⟩) 5 rc, .int .i64 1, .int .i64 0, .int .i64 4, .int .i64 4, .int .i64 5, .slice none 0 0, .slice (some ⟨gon, 0, none⟩) 5 5, .int .i64 4, .int .i64 4] 264 := (HX4.out.set 8 (.slice (some ⟨gon, 0, none⟩) 5 5)).ext (Ext.alloc _ _)
  have hbo : BoxAt ((W4.setCell ⟨gx, 8, none⟩ (.slice (some ⟨gon, 0, none⟩) 5 5)).alloc (.cells (madeCells #[.slice none 0 0] 5) 40)) gon #[.slice none 0 0, .slice none 0 0, .slice none 0 0, .slice none 0 0, .slice none 0 0] 40 := by
    have := BoxAt.new (W4.setCell ⟨gx, 8, none⟩ (.slice (some ⟨gon, 0, none⟩) 5 5)) (madeCells #[.slice none 0 0] 5) 40
    rw [World.size_setCell, hgon] at this
    rw [show (#[.slice none 0 0, .slice none 0 0, .slice none 0 0, .slice none 0 0, .slice none 0 0] : Array Value) = madeCells #[.slice none 0 0] 5 from mk5]
    exact this
  have hbl : Below gx W1 ((W4.setCell ⟨gx, 8, none⟩ (.slice (some ⟨gon, 0, none⟩) 5 5)).alloc (.cells (madeCells #[.slice none 0 0] 5) 40)) :=
    Below.alloc (bel_set (show Below gx W1 W4 from by rw [← HGX.out]; exact HE14.out) (Nat.le_refl _) _ _) (by have := HX4.out.lt; simp; omega) _
  clear h0 h1 k1 k8 f8 hmk ly ne8
  generalize ((W4.setCell ⟨gx, 8, none⟩ (.slice (some ⟨gon, 0, none⟩) 5 5)).alloc (.cells (madeCells #[.slice none 0 0] 5) 40)) = W5 at *
  have hgxo : gx < gon := by rw [← hgon]; exact HX4.out.lt
  have hfam : FamR W5 gon (fun _ => .slice none 0 0) 0 := ⟨fun d _ => ⟨[], OwnG.nil, Nat.le_refl _⟩, fun _ _ _ _ _ => .inl rfl⟩
  have HW1 : Hid (Rows54 W1 ra ro rc q) := HRV
  have HBL := Lib.hid hbl
  clear HX4 HE14 HX3 HE13 HBX HE2 hgon hbl
  have hms : MS W5 gx gon (mCx ra ro rc gon (.slice none 0 0)) (fun _ => .slice none 0 0) 0 (.slice none 0 0) [] W5 := ⟨hgxo, Below.refl _ _, hfam, hbo, OwnG.nil, hbx, Nat.le_refl _⟩
  clear hfam hbo hbx
  go_loopw [108] (fun it wr => ∃ (k : Nat) (vs : Nat → Value) (rk : Value) (xs : List Value), k ≤ 5 ∧ it = .int .i64 k ∧ xs.length = k ∧ MS W5 gx gon (mCx ra ro rc gon rk) vs (8 * k) rk xs wr) (fun it _ => 5 - (intOf it).toNat)
  case atStart => exact ⟨0, _, _, _, by decide, rfl, rfl, hms⟩
  case round =>
    obtain ⟨k, vs, rk, xs, hk, rfl, hxs, hM⟩ := hrel
    have eW : Ext W1 wr := show Below W1.heap.size W1 wr from by rw [HGX.out]; exact Below.trans HBL.out hM.bel
    have HRr := HW1.out.ext eW
    have hb1 := HBA.out.ext eW
    have hz := hb1.lt
    have HM := Lib.hid hM
    by_cases hlt : k < 5
    · have hkI : (k : Int) < 5 := by omega
      have rkc := HRr.row k hlt
      have lk := HRr.blk k hlt
      have lra := HRr.lt
      have hkg : (q k).1 < W1.heap.size := HW1.out.blk k hlt
      have HC : Hid (∀ i, i < 4 → W1.cell? ⟨(q k).1, (q k).2.1 + i, none⟩ = some (.int .i64 ((eln k i : Nat) : Int))) := fun i hi => by have := HW1.out.cell k hlt i hi; rw [eln_cast hlt hi] at this; exact this
      have hkc : 4 ≤ (q k).2.2 := HRr.cl k hlt
      generalize q k = z at *
      obtain ⟨kb, ko, kc⟩ := z
      simp only at rkc lk hkg HC hkc
      clear HRr hb1 hM
      go_wp2
      clear rkc
      have HM5 := Lib.hid (HM.out.nil5)
      generalize wr = wo at *
      go_loopw [10, 115] (fun t10 it wr => ∃ (i : Nat) (vs' : Nat → Value), i ≤ 4 ∧ it = .int .i64 i ∧ t10 = vs' 5 ∧ MS W5 gx gon (mCx ra ro rc gon rk) vs' (8 * k + 2 * i) rk xs wr) (fun _ it _ => 4 - (intOf it).toNat)
      case atStart => exact ⟨0, _, by decide, rfl, rfl, HM5.out⟩
      case round =>
        obtain ⟨i, vs', hi, rfl, rfl, hM⟩ := hrel
        have eW3 : Ext W1 wr := show Below W1.heap.size W1 wr from by rw [HGX.out]; exact Below.trans HBL.out hM.bel
        have HM2 := Lib.hid hM
        by_cases hlt2 : i < 4
        · have hiI : (i : Int) < 4 := by omega
          have ci := (Below.cell eW3 (p := ⟨kb, ko + i, none⟩) hkg).trans (HC.out i hlt2)
          have lkb : kb < wr.heap.size := Nat.lt_of_lt_of_le hkg eW3.size
          have hd := eln_lt hlt hlt2
          have hik : i ≤ kc := by omega
          generalize eln k i = d at *
          obtain ⟨l5, hr5, hl5⟩ := hM.fam.row 5 (by decide)
          obtain ⟨a5, c5, h5⟩ := hr5.shape
          rw [h5] at hr5
          obtain ⟨ld, hrd, hld⟩ := hM.fam.row d (by omega)
          obtain ⟨ad, cd, hvd⟩ := hrd.shape
          have god := fam_cell hM.boxo hd
          rw [hvd] at god hrd
          have gx8 := hM.boxx.cell 8 (v := .slice (some ⟨gon, 0, none⟩) 5 5) rfl
          have lgo := hM.boxo.lt
          have lgx := hM.boxx.lt
          have HR5 := Lib.hid hr5
          have HRD := Lib.hid hrd
          have H5 := Lib.hid h5
          have HVD := Lib.hid hvd
          have hd5 : (d : Int) < 5 := by omega
          obtain ⟨n5, hn5⟩ : ∃ n, l5.length = n := ⟨_, rfl⟩
          obtain ⟨nd, hnd⟩ : ∃ n, ld.length = n := ⟨_, rfl⟩
          have hn5b : n5 ≤ 100 := by omega
          have HB5 : Hid (n5 ≤ 8 * k + 2 * i) := Lib.hid (by omega)
          have HB6 : Hid (nd ≤ 8 * k + 2 * i) := Lib.hid (by omega)
          have hndb : nd ≤ 100 := by omega
          have HGS := Lib.hid (show gon + 1 ≤ wr.heap.size from lgo)
          have HR6 : Hid ((wr.alloc (.cells #[.int .i64 (nd : Int)] 3)).ownsRow (gon + 1) 3 1 (.slice a5 n5 c5) n5 (l5.map encI)) := by have := HR5.out.ext (Ext.alloc wr (.cells #[.int .i64 (nd : Int)] 3)); unfold OwnI OwnG at this; rw [hn5] at this; exact this
          rw [hn5] at h5
          rw [hnd] at god
          have HN5 := Lib.hid hn5
          have HND := Lib.hid hnd
          rw [h5]
          clear hr5 hrd hvd h5 hM hn5 hnd hl5 hld
          go_wp2_with (at_builtin; refine wpList_append_one rfl _ _ _ rfl (gon + 1) 3 i0 (.int .i64 0) 8 Tryz.underlying40 hii hii0 hii1 hii2 rfl _ _ _ rfl HR6.out _ (.int .i64 (nd : Int)) rfl rfl (cell_new1 _ _ _) (by unfold maxLen; omega) (by omega) (by have := HGS.out; simp; omega) ?_; intro v7 w7 ho7 hg7 hat7)
          obtain ⟨a7, c7, rfl⟩ := own_shape ho7
          have hO7 : OwnI w7 (gon + 1) (.slice a7 (n5 + 1) c7) (l5 ++ [(nd : Int)]) := OwnG.snoc (by rw [HN5.out]; exact ho7)
          have HM7 := Lib.hid (HM2.out.app5 (Ext.alloc wr (.cells #[.int .i64 (nd : Int)] 3)) hO7 (by rw [List.length_append, HN5.out]; have := HB5.out; simp; omega) (by rw [H5.out, HN5.out]; exact hg7) (by rw [H5.out, HN5.out]; exact hat7))
          have hvd7 : updF vs' 5 (.slice a7 (n5 + 1) c7) d = .slice ad nd cd := by unfold updF; rw [if_neg (by omega), HVD.out, HND.out]
          have HV7 := Lib.hid hvd7
          have hrd7 := HM7.out.fam.row d (by omega)
          rw [hvd7] at hrd7
          have HU5 : Hid (updF vs' 5 (.slice a7 (n5 + 1) c7) 5 = .slice a7 (n5 + 1) c7) := rfl
          clear ho7 hg7 hat7 HR6 HR5 H5 hO7 HRD HVD god gx8 lgo lgx hvd7 HM2 HN5 ci HGS
          generalize updF vs' 5 (.slice a7 (n5 + 1) c7) = vs7 at *
          have god7 := fam_cell HM7.out.boxo hd
          rw [HV7.out] at god7
          have gx87 := HM7.out.boxx.cell 8 (v := .slice (some ⟨gon, 0, none⟩) 5 5) rfl
          have lgo7 := HM7.out.boxo.lt
          have lgx7 := HM7.out.boxx.lt
          obtain ⟨ld7, hrd7, hld7⟩ := hrd7
          have hnd7 : ld7.length = nd := by
            obtain ⟨a, c, he⟩ := hrd7.shape
            injection he with h1 h2 h3
            exact h2.symm
          have HRD7 := Lib.hid hrd7
          have HND7 := Lib.hid hnd7
          have hk5 : k ≤ 100 := by omega
          clear hrd7 hld7 hnd7
          go_wp2_with fail
          refine wp_region_fix (fun w' => w'.cell? ⟨gx, 8, none⟩ = some (.slice (some ⟨gon, 0, none⟩) 5 5) ∧ w'.cell? ⟨gon, d, none⟩ = some (.slice ad nd cd)) [(0, true), (1, true), (2, true), (3, true), (4, true), (5, true), (6, true), (7, true), (8, true), (9, false), (10, false), (11, true), (12, false)] (by kernel_rfl) (by kernel_rfl) ?_ ?_
          · exact ⟨gx87, god7⟩
          iterate 9 ((first
           | refine fix_move rfl rfl (by rfl) (by rfl) ?_
           | (apply fix_take rfl (by rfl)
              · intro w' hSc
                go_simp
                (try simp (disch := omega) only [i64_id, u64_id, ↓IntWalk.iteOmega, Int.tdiv_eq_ediv_of_nonneg, Int.tmod_eq_emod_of_nonneg])
                try rfl)
           | refine fix_pass rfl (by rfl) ?_); simp only [Act.put, setZa, setZ0, setZ1])
          have hx8 : Ext w7 (w7.alloc (.cells #[.int .i64 (k : Int)] 3)).drew := (Ext.alloc _ _).trans (Ext.drew _)
          refine fix_do rfl (by rfl) (fun K hK => ?_)
          go_simp
          refine hK _ _ ⟨(hx8.cell _ _ lgx7).trans gx87, (hx8.cell _ _ lgo7).trans god7⟩ ?_
          clear hK K
          (try simp only [Act.put, setZa, setZ0, setZ1])
          have hb8 : BoxAt (w7.alloc (.cells #[.int .i64 (k : Int)] 3)).drew w7.heap.size #[.int .i64 (k : Int)] 3 := (BoxAt.new _ _ _).ext (Ext.drew _)
          have ho8 : (w7.alloc (.cells #[.int .i64 (k : Int)] 3)).drew.ownsRow (gon + 1) 3 1 (.slice ad nd cd) nd (ld7.map encI) := by
            have := HRD7.out.ext hx8
            unfold OwnI OwnG at this
            rw [HND7.out] at this
            exact this
          generalize (w7.alloc (.cells #[.int .i64 (k : Int)] 3)).drew = w8 at *
          refine fix_do rfl (by rfl) (fun K hK => ?_)
          refine wp_of_list rfl ?_
          refine wpList_append_one rfl _ _ _ rfl (gon + 1) 3 i0 (.int .i64 0) 8 Tryz.underlying40 hii hii0 hii1 hii2 rfl _ _ _ rfl ho8 _ (.int .i64 (k : Int)) rfl rfl (hb8.cell 0 rfl) (by unfold maxLen; omega) (by omega) (by have := hx8.size; omega) ?_
          intro v9 w9 ho9 hg9 hat9
          obtain ⟨a9, c9, rfl⟩ := own_shape ho9
          have hO9 : OwnI w9 (gon + 1) (.slice a9 (nd + 1) c9) (ld7 ++ [(k : Int)]) := OwnG.snoc (by rw [HND7.out]; exact ho9)
          have hlen9 : (ld7 ++ [(k : Int)]).length ≤ 8 * k + 2 * i + 1 + 1 := by rw [List.length_append, HND7.out]; have := HB6.out; simp; omega
          have hg9' : w8.grownBy w9 (vs7 d).ownBlock := by rw [HV7.out]; exact hg9
          have hat9' : (Value.slice a9 (nd + 1) c9).ownBlock = (vs7 d).ownBlock ∨ (Value.slice a9 (nd + 1) c9).ownBlock = some w8.heap.size := by rw [HV7.out]; exact hat9
          have HM9 := Lib.hid (HM7.out.put hd hx8 hO9 hlen9 hg9' hat9')
          obtain ⟨_, _, bo9, _, bx9, _⟩ := HM7.out.app (by omega) hx8 hO9 hlen9 hg9' hat9'
          have god9 := fam_cell bo9 hd
          rw [HV7.out] at god9
          have fgo9 := bo9.free d
          have lgo9 := bo9.lt
          have gx89 := bx9.cell 8 (v := .slice (some ⟨gon, 0, none⟩) 5 5) rfl
          have HU9 : Hid (updF vs7 d (.slice a9 (nd + 1) c9) 5 = .slice a7 (n5 + 1) c7) := Lib.hid (by unfold updF; rw [if_neg (by omega)]; exact HU5.out)
          refine hK _ _ ⟨gx89, god9⟩ ?_
          clear hK K ho9 hg9 hat9 hO9 hlen9 hg9' hat9' bo9 bx9 hb8 ho8 hx8 god7 gx87 lgo7 lgx7
          (try simp only [Act.put, setZa, setZ0, setZ1])
          ((first
           | refine fix_move rfl rfl (by rfl) (by rfl) ?_
           | (apply fix_take rfl (by rfl)
              · intro w' hSc
                go_simp
                (try simp (disch := omega) only [i64_id, u64_id, ↓IntWalk.iteOmega, Int.tdiv_eq_ediv_of_nonneg, Int.tmod_eq_emod_of_nonneg])
                try rfl)
           | refine fix_pass rfl (by rfl) ?_); simp only [Act.put, setZa, setZ0, setZ1])
          refine fix_last rfl (by rfl) (by kernel_rfl) (fun K hK => ?_)
          go_simp
          refine hK _ _ ?_
          clear hK K
          (try simp only [Act.put, setZa, setZ0, setZ1])
          go_wp2
          go_roundw
          case rel => exact ⟨i + 1, _, by omega, by go_num, HU9.out.symm, HM9.out.more (by omega)⟩
          case measure => simp [intOf]; omega
        · have hiI : ¬ ((i : Int) < 4) := by omega
          have hi4 : i = 4 := by omega
          subst hi4
          obtain ⟨ak, ck, hk7⟩ := hM.row.shape
          obtain ⟨l5, hr5, hl5⟩ := hM.fam.row 5 (by decide)
          obtain ⟨a5, c5, h5⟩ := hr5.shape
          obtain ⟨n5, hn5⟩ : ∃ n, l5.length = n := ⟨_, rfl⟩
          rw [hxs] at hk7
          rw [hn5] at h5
          have hc7 := hM.boxx.cell 7 (v := rk) rfl
          have hf7 := hM.boxx.free 7
          have lgx := hM.boxx.lt
          have hk100 : k ≤ 100 := by omega
          have HRW : Hid ((wr.alloc (.cells #[.slice a5 n5 c5] 40)).ownsRow (gon + 1) 40 1 rk k (xs.map id)) := by have := hM.row.ext (Ext.alloc wr (.cells #[.slice a5 n5 c5] 40)); unfold OwnG at this; rw [hxs] at this; exact this
          have HXS := Lib.hid hxs
          have HGL := Lib.hid (show gon + 1 ≤ wr.heap.size from hM.boxo.lt)
          rw [h5]
          clear hM hr5 hl5 h5 hn5 hxs
          rw [hk7] at hc7
          go_wp2_with (at_builtin; refine Classical.byContradiction (fun hNN => ?_); refine hNN ?_; clear hNN; refine wpList_append_one rfl _ _ _ rfl (gon + 1) 40 j0 (.slice none 0 0) 24 Tryz.underlying115 hj hj0 hj1 hj2 rfl _ _ _ rfl (hk7 ▸ HRW.out) _ (.slice a5 n5 c5) rfl rfl (cell_new1 _ _ _) (by unfold maxLen; omega) (by omega) (by have := HGL.out; simp; omega) ?_; intro v7 w7 ho7 hg7 hat7; obtain ⟨a7, c7, rfl⟩ := own_shape ho7; have hB7 := (HM2.out.boxx.ext (Ext.alloc wr (.cells #[.slice a5 n5 c5] 40))).grown hg7 (fun hb => by have := (HM2.out.row.lt gx (by rw [hk7]; exact hb.symm)).1; have := HM2.out.lt; omega); have c7c := hB7.cell 7 (v := rk) rfl; rw [hk7] at c7c; have f7 := hB7.free 7; have l7 := hB7.lt)
          have HMR := HM2.out.rank (Ext.alloc wr (.cells #[.slice a5 n5 c5] 40)) (y := .slice a5 n5 c5) (v' := .slice a7 (k + 1) c7) (OwnG.snoc (by rw [HXS.out]; exact ho7)) (by rw [hk7]; exact hg7)
          go_roundw
          case rel => exact ⟨k + 1, vs', .slice a7 (k + 1) c7, _, by omega, by go_num, by rw [List.length_append, HXS.out]; rfl, HMR.more (by omega)⟩
          case measure => simp [intOf]; omega
    · have hkI : ¬ ((k : Int) < 5) := by omega
      have hk5 : k = 5 := by omega
      subst hk5
      obtain ⟨ak, ck, hk7⟩ := hM.row.shape
      rw [hxs] at hk7
      subst hk7
      have hbx : BoxAt wr gx (numC (.slice (some ⟨ra, ro, none⟩) 5 rc) (.slice ak 5 ck) (.slice (some ⟨gon, 0, none⟩) 5 5) 4 4) 264 := hM.boxx
      have hb2 := HBB.out.ext eW
      clear hM HRr hb1 hz
      go_wp2_with first | (refine wpList_loadR 264 _ rfl (by rfl) rfl (box_load0 hbx Tryz.underlying264 rfl (by kernel_rfl)) ?_) | (refine wpList_store_box 264 _ _ rfl (by rfl) rfl rfl hb2 rfl (by kernel_rfl) (by simp [Value.oneCell']) ?_; intro w9 hS9)
      refine bodyPost_ret (results_cell_tmpA rfl _ _ rfl (box_result hS9.box Tryz.underlying264 rfl (by kernel_rfl))) rfl ⟨ak, 5, ck, some ⟨gon, 0, none⟩, 5, 5, rfl, ?_⟩
      exact hS9.bel (show Below w.heap.size w wr from HE1.out.trans eW) (by have := HG1.out; have := HG2.out; omega)
end Go.Proofs.YtjabgpejmnpamaaGreatDoor
