/-
  Part 16 of the proof: WholeImport: small facts; the walk.
-/
import Derived.Test.YtjabgpejmnpamaaGreatDoorZ11
import Derived.Test.YtjabgpejmnpamaaGreatDoorZ15
import Derived.Test.YtjabgpejmnpamaaGreatDoorZ12
import Derived.Test.YtjabgpejmnpamaaGreatDoorZ01
import Derived.Test.YtjabgpejmnpamaaGreatDoorZ14
import Derived.Test.YtjabgpejmnpamaaGreatDoorZ13
set_option linter.unusedVariables false
namespace Go.Proofs.YtjabgpejmnpamaaGreatDoor
open Go.RowKit Go.Shelf
set_option maxRecDepth 100000
abbrev tLab : TypeId := 29
theorem placesI_short {ls : List LD} {rd : List Bool} : (placesE ls rd).length ≤ 60 := by
  unfold placesE
  split
  · simp
  · rename_i m hb
    split
    · rw [atE_len]
      have := valid_facts (cand_valid (best_facts hb).2)
      unfold disksN; omega
    · simp
structure ImpR (wr : World) (N z : Nat) (l : Lab) (dn : Nat → Bool) (d : Nat) (lt rt : Value) : Prop where
  labs : ∃ ps : List LP, ps.length = d ∧ OwnLs wr N lt ps ∧ ∀ i (h : i < ps.length), (impL l dn i).1 = ps[i].1 ∧ OwnG Value.bool 4 wr 0 ps[i].2 (impL l dn i).2
  reads : OwnG Value.bool 4 wr N rt (List.replicate d true)
  first : d = 0 → rt = .slice none 0 0
  zb : BoxAt wr z #[.bool false, .bool false, .bool false, .bool false, .bool false] 4
theorem ImpR.ext {wr w' : World} {N z : Nat} {l : Lab} {dn : Nat → Bool} {d : Nat} {lt rt : Value} (h : ImpR wr N z l dn d lt rt) (e : Ext wr w') : ImpR w' N z l dn d lt rt := by
  obtain ⟨⟨ps, h1, h2, h3⟩, h4, h0, h5⟩ := h
  exact ⟨⟨ps, h1, h2.ext e, fun i hi => ⟨(h3 i hi).1, (h3 i hi).2.ext e⟩⟩, h4.ext e, h0, h5.ext e⟩
theorem ImpR.stored {wr w' : World} {N z g : Nat} {l : Lab} {dn : Nat → Bool} {d : Nat} {lt rt : Value} {cs cells : Array Value} {t : TypeId} (h : ImpR wr N z l dn d lt rt) (hs : Stored wr w' g cells t) (hb : BoxAt wr g cs 29) (hg : g < N) (hz : z ≠ g) : ImpR w' N z l dn d lt rt := by
  obtain ⟨⟨ps, h1, h2, h3⟩, h4, h0, h5⟩ := h
  refine ⟨⟨ps, h1, World.ownsRow.kept h2 hs.grown ?_, fun i hi => ⟨(h3 i hi).1, (h3 i hi).2.kept hs.grown (.inl ((h3 i hi).2.not_box hb (by decide)))⟩⟩, World.ownsRow.kept h4 hs.grown ?_, h0, hs.keep h5 hz⟩
  · right
    intro e
    have := (h2.lt g e).1
    omega
  · right
    intro e
    have := (h4.lt g e).1
    omega
def z5 (z : Nat) : Value := .slice (some ⟨z, 0, none⟩) 5 5
theorem z5_at {w : World} {z : Nat} (h : BoxAt w z #[.bool false, .bool false, .bool false, .bool false, .bool false] 4) : SliceAt Value.bool w (.slice (some ⟨z, 0, none⟩) 5 5) f5 := by
  refine ⟨some ⟨z, 0, none⟩, 5, rfl, by decide, .inr ⟨z, 0, rfl, h.lt, fun i hi => ?_⟩⟩
  refine h.cell _ ?_
  match i, hi with
  | 0, _ => rfl | 1, _ => rfl | 2, _ => rfl | 3, _ => rfl | 4, _ => rfl
theorem OwnL.off {w w' : World} {base g : Nat} {v : Value} {S : List (List (BitVec 8))} {cells : Array Value} {t : TypeId} (h : OwnL w base v S) (hs : Stored w w' g cells t) (hg : g < base) : OwnL w' base v S := by
  obtain ⟨vs, h1, h2, h3⟩ := h
  have key : ∀ {e : TypeId} {s n : Nat} {u : Value} {xs : List Value}, w.ownsRow base e s u n xs → w'.ownsRow base e s u n xs := fun ho => World.ownsRow.kept ho hs.grown (by
    right
    intro e
    have := (World.ownsRow.lt ho g e).1
    omega)
  exact ⟨vs, key h1, h2, fun i a b => key (h3 i a b)⟩
theorem encI_ok {l : Lab} {d : Nat} (hw : validW l f5) (hd : d < 5) : encN' (oneL l d) f5 = 0 ∧ encR (oneL l d) f5 = Lb.encL (oneL l d) f5 := by
  have hv : validL (oneL l d) f5 = true := by rw [valid_oneW hw hd, f5_get hd]; rfl
  unfold encN' encR
  rw [hv]
  exact ⟨rfl, rfl⟩
def arr2 (p : Bool) (a b : Value) : Array Value := if p then #[b, a] else #[a, b]
theorem enc_rowsI {l : Lab} {x : List Bool} (hv : validL l x = true) : (Lb.encL l x).length ≤ 4 ∧ 1 ≤ (Lb.encL l x).length ∧ ∀ r, r ∈ Lb.encL l x → r.length ≤ 200 := by
  have hF := Lb.fine_of hv
  have hel := Lb.enc_len hF
  refine ⟨hel.2, hel.1, fun r hr => ?_⟩
  unfold Lb.encL Lb.cutL at hr
  obtain ⟨j, hj, rfl⟩ := List.mem_map.1 hr
  have := Lb.sector_len hF (List.mem_range.1 hj)
  omega
theorem impL_snd {l : Lab} {dn : Nat → Bool} {d : Nat} : (impL l dn d).2 = f5 := by unfold impL; split <;> rfl
theorem area_rows {l : Lab} {d : Nat} (hd : d < 5) {b : Bool} {T : List (List (BitVec 8))} (hw : validW l f5) (hg : l.gen.toNat + 1 < 4294967296) (ha : Area l d b T) : T.length ≤ 60 ∧ ∀ r, r ∈ T → r.length ≤ 200 := by
  have hr := enc_rowsI (l := oneL (nextI l) d) (x := f5) (by rw [valid_oneW (nextI_valid hw hg) hd, f5_get hd]; rfl)
  cases ha with
  | none => exact ⟨by decide, fun r h => by cases h⟩
  | torn k hk => exact ⟨by rw [List.length_take]; omega, fun r h => hr.2.2 r (List.mem_of_mem_take h)⟩
  | whole => exact ⟨by omega, hr.2.2⟩
theorem dead_ne {w : World} {B N d : Nat} {dv rt : Value} (h : OwnG Value.bool 4 w B dv f5) (hr : OwnG Value.bool 4 w N rt (List.replicate d true)) (h0 : d = 0 → rt = .slice none 0 0) : dv.ownBlock ≠ rt.ownBlock := by
  obtain ⟨q, c, rfl, _, _⟩ := h.form (by decide)
  have hc := h.at rfl (k := 0) (by decide)
  intro e
  rcases Nat.eq_zero_or_pos d with hd | hd
  · rw [h0 hd] at e; cases e
  · obtain ⟨q2, c2, rfl, _, _⟩ := hr.form (by rw [List.length_replicate]; exact hd)
    have hc2 := hr.at rfl (k := 0) (by rw [List.length_replicate]; exact hd)
    have hq : q = q2 := Option.some.inj e
    subst hq
    rw [hc] at hc2
    simp [f5] at hc2
set_option maxHeartbeats 8000000 in
theorem wholeImport_walk (l : Lab) (dv : Value) (x : List Bool) (wb tb kb : BitVec 8) (w : World) (hs : Small w) (mx : x.length ≤ maxLen) (hx : SliceAt Value.bool w dv x) :
    Calls Tryz.prog 3 #[labV l dv, .int .u8 (ub wb), .int .u8 (ub tb), .int .u8 (ub kb)] w fun e w' => e = .returned (.bool true) ∧ Below w.heap.size w w' := by
  obtain ⟨i0, hI, hI0, hI1, hI2⟩ := info_parts infoBo
  obtain ⟨ax, cx, rfl⟩ := hx.shape
  unfold maxLen at mx
  obtain ⟨n, hn⟩ : ∃ n, x.length = n := ⟨_, rfl⟩
  have HN := Lib.hid hn
  have HXX := Lib.hid hx
  have HSM := Lib.hid hs
  rw [hn] at HXX mx ⊢
  clear hx hs hn
  have HX0 := Lib.hid (Ext.alloc w (.cells (labA l (.slice ax n cx)) 29))
  have HB0 := Lib.hid (BoxAt.new w (labA l (.slice ax n cx)) 29)
  go_enter Tryz.func3, Tryz.ntmps3
  go_upto_region 3 with (go_at_call 5; go_loud (refine (awake31_any _ (HSM.out.ext HX0.out)).mono ?_); rintro e w1 ⟨rfl, hx1⟩; have HX1 := Lib.hid (HX0.out.trans hx1); have HB1 := Lib.hid (HB0.out.ext hx1); clear hx1)
  by_cases h5 : n = 5
  · subst h5
    have HV := Lib.hid (fun (w' : World) (e : Ext w w') => rvalid_any l (.slice ax 5 cx) x w' (by rw [HN.out]; decide) (HXX.out.ext e))
    have c15 := HB1.out.cell 15 (v := .slice ax 5 cx) rfl
    have c2 := HB1.out.cell 2 (v := encU l.gen) rfl
    have lb := HB1.out.lt
    obtain ⟨g4, hg4⟩ : ∃ g, w.heap.size = g := ⟨_, rfl⟩
    rw [hg4] at HB1 c15 c2 lb ⊢
    have HG4 := Lib.hid hg4
    clear hg4
    have hgN : IntKind.u64.wrap (un l.gen + 1) = un (l.gen + 1#64) := by
      unfold un
      rw [BitVec.toNat_add]
      show ((l.gen.toNat : Int) + 1) % 18446744073709551616 = (((l.gen.toNat + 1) % 18446744073709551616 : Nat) : Int)
      omega
    have hrN : IntKind.u64.wrap (un l.root + 1) = un (l.root + 1#64) := by
      unfold un
      rw [BitVec.toNat_add]
      show ((l.root.toNat : Int) + 1) % 18446744073709551616 = (((l.root.toNat + 1) % 18446744073709551616 : Nat) : Int)
      omega
    obtain ⟨G, hG⟩ : ∃ G, l.gen + 1#64 = G := ⟨_, rfl⟩
    obtain ⟨Ro, hRo⟩ : ∃ R, l.root + 1#64 = R := ⟨_, rfl⟩
    rw [hG] at hgN
    rw [hRo] at hrN
    have HG := Lib.hid hG
    have HRo := Lib.hid hRo
    clear hG hRo
    have HGN := Lib.hid hgN
    cases hv : validL l x with
    | false =>
      rw [hv] at HV
      go_wp2_with first | (refine wpList_loadR 29 _ rfl (by rfl) rfl (LabAt.of_box HB1.out).load ?_) | (go_at_call 6; go_loud (refine (HV.out _ HX1.out).mono ?_); rintro e w2 ⟨rfl, hx2⟩)
      go_ret
      exact ⟨rfl, HX1.out.trans hx2⟩
    | true =>
      rw [hv] at HV
      have hvf := valid_facts hv
      have hb1 := hvf.2.2.2.2.1
      have hb2 := hvf.2.2.2.2.2.2.2.2.2
      have hunG : un G = un l.gen + 1 := by
        rw [← hgN]
        have e : un l.gen = (l.gen.toNat : Int) := rfl
        rw [e]
        exact u64_id _ (by omega)
      have HV2 := Lib.hid hv
      have HUN := Lib.hid hunG
      clear hvf hb1 hb2 hv hunG
      by_cases hg : 4294967296 ≤ un G
      · go_wp2_with first | (refine wpList_loadR 29 _ rfl (by rfl) rfl (LabAt.of_box HB1.out).load ?_) | (go_at_call 6; go_loud (refine (HV.out _ HX1.out).mono ?_); rintro e w2 ⟨rfl, hx2⟩; have HX2 := Lib.hid (HX1.out.trans hx2); have HB2 := Lib.hid (HB1.out.ext hx2); have d2 := HB2.out.cell 2 (v := encU l.gen) rfl; have ld := HB2.out.lt; clear hx2 c15 c2 lb)
        go_ret
        exact ⟨rfl, HX2.out⟩
      · have hgd : decide (4294967296 ≤ un G) = false := decide_eq_false hg
        have HGL := Lib.hid hg
        clear hg
        go_upto_region 5 with (first | (refine wpList_loadR 29 _ rfl (by rfl) rfl (LabAt.of_box HB1.out).load ?_) | (go_at_call 6; go_loud (refine (HV.out _ HX1.out).mono ?_); rintro e w2 ⟨rfl, hx2⟩; have HX2 := Lib.hid (HX1.out.trans hx2); have HB2 := Lib.hid (HB1.out.ext hx2); have d2 := HB2.out.cell 2 (v := encU l.gen) rfl; have ld := HB2.out.lt; clear hx2 c15 c2 lb))
        have hmk := run_make_b5
        simp only [made_b5] at hmk
        have HZ2 : Hid (BoxAt (w2.alloc (.cells #[.bool false, .bool false, .bool false, .bool false, .bool false] 4)) w2.heap.size #[.bool false, .bool false, .bool false, .bool false, .bool false] 4) := Lib.hid (BoxAt.new w2 _ _)
        have HBA : Hid (BoxAt (w2.alloc (.cells #[.bool false, .bool false, .bool false, .bool false, .bool false] 4)) g4 (labA l (.slice ax 5 cx)) 29) := Lib.hid (HB2.out.ext (Ext.alloc _ _))
        have HXA : Hid (Ext w (w2.alloc (.cells #[.bool false, .bool false, .bool false, .bool false, .bool false] 4))) := Lib.hid (HX2.out.trans (Ext.alloc _ _))
        clear d2 ld
        go_upto_region 6 with (refine wpList_store_cell 27 _ _ rfl (by rfl) (i := 15) (v := .slice (some ⟨w2.heap.size, 0, none⟩) 5 5) rfl rfl HBA.out (by simp) (by kernel_rfl) rfl ?_; intro w3 hS; have HS3 : Hid (Stored (w2.alloc (.cells #[.bool false, .bool false, .bool false, .bool false, .bool false] 4)) w3 g4 (labA l (.slice (some ⟨w2.heap.size, 0, none⟩) 5 5)) 29) := Lib.hid hS; clear hS)
        have HX3 : Hid (Ext w w3) := Lib.hid (HS3.out.bel HXA.out (by have := HG4.out; omega))
        have HZ3 := Lib.hid (HS3.out.keep HZ2.out (box_ne HZ2.out HBA.out (by decide)))
        have HB3 := Lib.hid HS3.out.box
        obtain ⟨z, hz⟩ : ∃ z, w2.heap.size = z := ⟨_, rfl⟩
        rw [hz] at HB3 HZ3 ⊢
        clear hmk hz HS3 HBA HXA HZ2
        go_upto_region 7 with (first | (refine wpList_loadR 29 _ rfl (by rfl) rfl (LabAt.of_box HB3.out).load ?_) | (refine wpList_store_box 29 _ _ rfl (by rfl) rfl rfl (BoxAt.new _ _ _) rfl (by kernel_rfl) (labA_one rfl) ?_; intro w4 hS; have HX34 := Lib.hid (show Ext w3 w4 from hS.bel (Ext.alloc _ _) (Nat.le_refl _)); have HB9 := Lib.hid (show BoxAt w4 w3.heap.size (labA l (.slice (some ⟨z, 0, none⟩) 5 5)) 29 from hS.box); clear hS))
        (try simp only [Act.put])
        have HB4 := Lib.hid (HB3.out.ext HX34.out)
        have HZ4 := Lib.hid (HZ3.out.ext HX34.out)
        have HX4 := Lib.hid (HX3.out.trans HX34.out)
        have hne49 : Hid (g4 ≠ w3.heap.size) := Lib.hid (by have := HB3.out.lt; omega)
        have hle9 : Hid (w.heap.size ≤ w3.heap.size) := Lib.hid HX3.out.size
        have HW9 := hle9
        have hz9 : Hid (z ≠ w3.heap.size) := Lib.hid (by have := HZ3.out.lt; omega)
        generalize w3.heap.size = g9 at *
        clear HB3 HZ3 HX3 HX34
        have HS4 : Hid (∀ w', BoxAt w' g4 (labA l (.slice (some ⟨z, 0, none⟩) 5 5)) 29 → (w'.cell? ⟨g4, 2, none⟩ = some (encU l.gen) ∧ w'.cell? ⟨g4, 18, none⟩ = some (encU l.root))) := Lib.hid (fun w' hb => ⟨hb.cell 2 (v := encU l.gen) rfl, hb.cell 18 (v := encU l.root) rfl⟩)
        refine wp_region_fix (fun w' => w'.cell? ⟨g4, 2, none⟩ = some (encU l.gen) ∧ w'.cell? ⟨g4, 18, none⟩ = some (encU l.root)) [(0, true), (1, true), (2, true), (3, true), (4, true), (5, true), (6, true), (7, true), (8, true), (9, false), (10, true), (11, false), (12, true), (13, false)] (by kernel_rfl) (by kernel_rfl) ?_ ?_
        · exact HS4.out _ (HB4.out.ext (Ext.drew _))
        iterate 9 ((first
         | refine fix_move rfl rfl (by rfl) (by rfl) ?_
         | (apply fix_take rfl (by rfl)
            · intro w' hSc
              go_simp
              (try simp (disch := omega) only [i64_id, u64_id, ↓IntWalk.iteOmega, Int.tdiv_eq_ediv_of_nonneg, Int.tmod_eq_emod_of_nonneg])
              try rfl)
         | refine fix_pass rfl (by rfl) ?_); simp only [Act.put, setZa, setZ0, setZ1])
        (refine fix_do rfl (by rfl) (fun K hK => ?_)
         refine wp_of_list rfl ?_
         refine wpList_store_cell 22 _ _ rfl (by rfl) (i := 2) rfl rfl (HB9.out.ext (Ext.drew _)) (by simp) (by kernel_rfl) rfl ?_
         intro w5 hS
         have HS5 := Lib.hid hS
         refine hK _ _ (HS4.out _ (hS.keep (HB4.out.ext (Ext.drew _)) hne49.out)) ?_
         clear hK K hS
         (try simp only [Act.put]))
        iterate 1 ((first
         | refine fix_move rfl rfl (by rfl) (by rfl) ?_
         | (apply fix_take rfl (by rfl)
            · intro w' hSc
              go_simp
              (try simp (disch := omega) only [i64_id, u64_id, ↓IntWalk.iteOmega, Int.tdiv_eq_ediv_of_nonneg, Int.tmod_eq_emod_of_nonneg])
              try rfl)
         | refine fix_pass rfl (by rfl) ?_); simp only [Act.put, setZa, setZ0, setZ1])
        (refine fix_do rfl (by rfl) (fun K hK => ?_)
         refine wp_of_list rfl ?_
         refine wpList_store_cell 22 _ _ rfl (by rfl) (i := 3) rfl rfl HS5.out.box (by simp) (by kernel_rfl) rfl ?_
         intro w6 hS
         have HS6 := Lib.hid hS
         refine hK _ _ (HS4.out _ (hS.keep (HS5.out.keep (HB4.out.ext (Ext.drew _)) hne49.out) hne49.out)) ?_
         clear hK K hS
         (try simp only [Act.put]))
        iterate 1 ((first
         | refine fix_move rfl rfl (by rfl) (by rfl) ?_
         | (apply fix_take rfl (by rfl)
            · intro w' hSc
              go_simp
              (try simp (disch := omega) only [i64_id, u64_id, ↓IntWalk.iteOmega, Int.tdiv_eq_ediv_of_nonneg, Int.tmod_eq_emod_of_nonneg])
              try rfl)
         | refine fix_pass rfl (by rfl) ?_); simp only [Act.put, setZa, setZ0, setZ1])
        (refine fix_do rfl (by rfl) (fun K hK => ?_)
         refine wp_of_list rfl ?_
         refine wpList_store_cell 22 _ _ rfl (by rfl) (i := 18) rfl rfl HS6.out.box (by simp) (by kernel_rfl) rfl ?_
         intro w7 hS
         have HS7 := Lib.hid hS
         refine hK _ _ (HS4.out _ (hS.keep (HS6.out.keep (HS5.out.keep (HB4.out.ext (Ext.drew _)) hne49.out) hne49.out) hne49.out)) ?_
         clear hK K hS
         (try simp only [Act.put]))
        refine fix_nil ?_
        have HB9n : Hid (BoxAt w7 g9 (labA (nextI l) (.slice (some ⟨z, 0, none⟩) 5 5)) 29) := Lib.hid (by
          have h := HS7.out.box
          rw [← HG.out, ← HRo.out] at h
          exact h)
        have HB4n := Lib.hid (HS7.out.keep (HS6.out.keep (HS5.out.keep (HB4.out.ext (Ext.drew _)) hne49.out) hne49.out) hne49.out)
        have HZn := Lib.hid (HS7.out.keep (HS6.out.keep (HS5.out.keep (HZ4.out.ext (Ext.drew _)) hz9.out) hz9.out) hz9.out)
        have HXn := Lib.hid (HS7.out.bel (HS6.out.bel (HS5.out.bel (HX4.out.trans (Ext.drew _)) hle9.out) hle9.out) hle9.out)
        clear HS4 HS5 HS6 HS7 HB4 HB9 HZ4 HX4 hle9
        go_wp2_with fail
        obtain ⟨N, hN⟩ : ∃ N, w7.heap.size = N := ⟨_, rfl⟩
        have h4N : g4 < N := by have := HB4n.out.lt; omega
        have h9N : g9 < N := by have := HB9n.out.lt; omega
        have hzN : z < N := by have := HZn.out.lt; omega
        have H4N := Lib.hid h4N
        have H9N := Lib.hid h9N
        have HZN := Lib.hid hzN
        have HNN := Lib.hid hN
        have hz4 : Hid (z ≠ g4) := Lib.hid (box_ne HZn.out HB4n.out (by decide))
        have hw4 : Hid (w.heap.size ≤ g4) := Lib.hid (by have := HG4.out; omega)
        have hw9 : Hid (w.heap.size ≤ g9) := Lib.hid HW9.out
        have hwN : Hid (w.heap.size ≤ N) := Lib.hid (by have h1 := hw9.out; have h2 := H9N.out; omega)
        clear h4N h9N hzN hN
        have HVW := Lib.hid (validW_f5 HV2.out HN.out)
        have HGT : Hid (l.gen.toNat + 1 < 4294967296) := Lib.hid (by
          have h1 := HGL.out
          have h2 := HUN.out
          have e : un l.gen = (l.gen.toNat : Int) := rfl
          omega)
        go_loopw [10, 11, 12, 57] (fun lt rt at_ it wr => ∃ d : Nat, d ≤ 5 ∧ it = .int .i64 d ∧ at_ = .bool ((List.range d).any (fun i => wb.getLsbD i && !(tb.getLsbD i))) ∧ Hid (ImpR wr N z l (fun i => wb.getLsbD i && !(tb.getLsbD i)) d lt rt) ∧ Hid (∃ j : Int, BoxAt wr g4 (labA { l with disk := j } (.slice (some ⟨z, 0, none⟩) 5 5)) 29) ∧ Hid (∃ j : Int, BoxAt wr g9 (labA { nextI l with disk := j } (.slice (some ⟨z, 0, none⟩) 5 5)) 29) ∧ Hid (Ext w wr) ∧ Hid (N ≤ wr.heap.size)) (fun _ _ _ it _ => 5 - (intOf it).toNat)
        case atStart => exact ⟨0, Nat.zero_le _, rfl, rfl, Lib.hid ⟨⟨[], rfl, OwnLs.nil, fun i h => absurd h (Nat.not_lt_zero _)⟩, OwnG.nil, fun _ => rfl, HZn.out⟩, Lib.hid ⟨l.disk, HB4n.out⟩, Lib.hid ⟨l.disk, HB9n.out⟩, HXn, Lib.hid (Nat.le_of_eq HNN.out.symm)⟩
        case round =>
          obtain ⟨d, hd, rfl, rfl, HI, HB4r, HB9r, HXr, HNr⟩ := hrel
          obtain ⟨j4, hb4⟩ := HB4r.out
          obtain ⟨j9, hb9⟩ := HB9r.out
          have HB4 := Lib.hid hb4
          have HB9 := Lib.hid hb9
          clear HB4r HB9r hb4 hb9
          by_cases hlt : d < 5
          · have hdI : (d : Int) < 5 := by omega
            go_upto_region 15 with (first | (refine wpList_store_cell 3 _ _ rfl (by rfl) (i := 1) rfl rfl HB4.out (by simp) (by kernel_rfl) rfl ?_; intro w2 hS; have HS2 := Lib.hid hS; clear hS) | (refine wpList_store_cell 3 _ _ rfl (by rfl) (i := 1) rfl rfl (HS2.out.keep HB9.out (Ne.symm hne49.out)) (by simp) (by kernel_rfl) rfl ?_; intro w3 hS; have HS3 := Lib.hid hS; clear hS))
            (try simp only [Act.put])
            have hsl : ∀ b : Bool, (Value.slice (some ⟨z, 0, none⟩) 5 5) ≠ .bool b := fun b e => by cases e
            have HI3 := Lib.hid ((HI.out.stored HS2.out HB4.out H4N.out hz4.out).stored HS3.out (HS2.out.keep HB9.out (Ne.symm hne49.out)) H9N.out hz9.out)
            have HB4c : Hid (BoxAt w3 g4 (labA (oneL l d) (.slice (some ⟨z, 0, none⟩) 5 5)) 29) := Lib.hid (HS3.out.keep HS2.out.box hne49.out)
            have HB9c : Hid (BoxAt w3 g9 (labA (oneL (nextI l) d) (.slice (some ⟨z, 0, none⟩) 5 5)) 29) := Lib.hid HS3.out.box
            have HX3 := Lib.hid (HS3.out.bel (HS2.out.bel HXr.out hw4.out) hw9.out)
            have HN3 : Hid (N ≤ w3.heap.size) := Lib.hid (by have h1 := HS2.out.size; have h2 := HS3.out.size; have h3 := HNr.out; omega)
            obtain ⟨hen0, hen1⟩ := encI_ok HVW.out hlt
            have HE0 := Lib.hid hen0
            have HE1 := Lib.hid hen1
            clear HS2 HS3 HB4 HB9 HI HXr HNr hsl hen0 hen1
            go_upto_region 17 with (first | (refine wpList_store_box 34 _ _ rfl (by rfl) rfl rfl (BoxAt.new w3 #[.slice none 0 0, .slice none 0 0] 34) rfl (by kernel_rfl) (by simp [Value.oneCell']) ?_; intro w4 hS; have HX34 := Lib.hid (show Ext w3 w4 from hS.bel (Ext.alloc _ _) (Nat.le_refl _)); have HA4 := Lib.hid hS.box; have HB44 := Lib.hid (HB4c.out.ext HX34.out); clear hS) | (refine wpList_loadR 29 _ rfl (by rfl) rfl (LabAt.of_box HB44.out).load ?_) | (go_at_call 7; go_loud (refine (encode_any (oneL l d) (.slice (some ⟨z, 0, none⟩) 5 5) f5 _ (by decide) (z5_at (HI3.out.zb.ext HX34.out))).mono ?_); rintro e w5 ⟨v1, rfl, ho1, hx5⟩; rw [HE1.out] at ho1; rw [HE0.out]; have HO1 := Lib.hid ho1; have HX45 := Lib.hid hx5; have HX5 := Lib.hid (HX34.out.trans hx5); clear ho1 hx5))
            have HB45 := Lib.hid (HB4c.out.ext HX5.out)
            have HA5 := Lib.hid (HA4.out.ext HX45.out)
            have a2 := HB45.out.cell 2 (v := encU l.gen) rfl
            have la := HB45.out.lt
            have lar := HA5.out.lt
            obtain ⟨va1, vc1, hva1⟩ := HO1.out.shape
            subst hva1
            obtain ⟨n1, hn1⟩ : ∃ n1, (Lb.encL (oneL l d) f5).length = n1 := ⟨_, rfl⟩
            rw [hn1] at HO1 ⊢
            have HN1 := Lib.hid hn1
            clear hn1
            have hga : w3.heap.size < w4.heap.size := HA4.out.lt
            have HGA := Lib.hid hga
            clear hga
            obtain ⟨ga, hgaE⟩ : ∃ g, w3.heap.size = g := ⟨_, rfl⟩
            rw [hgaE] at HA4 HA5 lar HGA ⊢
            have HGE := Lib.hid hgaE
            clear hgaE
            have hbW := bit_shr wb d
            have hbT := bit_shr tb d
            obtain ⟨uW, huW⟩ : ∃ u, wb.getLsbD d = u := ⟨_, rfl⟩
            obtain ⟨uT, huT⟩ : ∃ u, tb.getLsbD d = u := ⟨_, rfl⟩
            rw [huW] at hbW
            rw [huT] at hbT
            have HUW := Lib.hid huW
            have HUT := Lib.hid huT
            have HBW := Lib.hid hbW
            have HBT := Lib.hid hbT
            clear huW huT hbW hbT
            have hd0 : (0 : Int) ≤ (d : Int) := by omega
            have hpar : ∃ p : Bool, (un l.gen).tmod 2 = (if p then 1 else 0) ∧ un l.gen % 2 = (if p then 1 else 0) ∧ (un G).tmod 2 = (if p then 0 else 1) := by
              rw [un_tmod, un_tmod, HUN.out]
              rcases (by omega : un l.gen % 2 = 0 ∨ un l.gen % 2 = 1) with h | h
              · exact ⟨false, by simpa using h, by simpa using h, by simp; omega⟩
              · exact ⟨true, by simpa using h, by simpa using h, by simp; omega⟩
            obtain ⟨p, hp1, hp2, hp3⟩ := hpar
            have HP1 := Lib.hid hp1
            have HP2 := Lib.hid hp2
            have HP3 := Lib.hid hp3
            clear hp1 hp2 hp3
            obtain ⟨A, hA⟩ : ∃ A, ((List.range d).any fun i => wb.getLsbD i && !(tb.getLsbD i)) = A := ⟨_, rfl⟩
            have HAA := Lib.hid hA
            rw [hA]
            clear hA hgN hrN
            go_cut [14] (fun s14 wx => s14 = .pointer (some ⟨ga, 0, none⟩) ∧ Hid (BoxAt wx ga (arr2 p (.slice va1 n1 vc1) (.slice none 0 0)) 34) ∧ Hid (OwnL wx w4.heap.size (.slice va1 n1 vc1) (Lb.encL (oneL l d) f5)) ∧ Hid (Ext w3 wx))
            case first =>
              cases p with
              | false =>
                have hp1 : (un l.gen).tmod 2 = 0 := HP1.out
                go_wp2_with (refine wpList_store_cell 33 _ _ rfl (by rfl) (i := 0) rfl rfl HA5.out (by simp) (by kernel_rfl) rfl ?_; intro w6 hS; have HS6 := Lib.hid hS; clear hS)
                go_meet
                exact ⟨rfl, Lib.hid HS6.out.box, Lib.hid (HO1.out.off HS6.out HGA.out), Lib.hid (HS6.out.bel HX5.out (Nat.le_of_eq HGE.out))⟩
              | true =>
                have hp1 : (un l.gen).tmod 2 = 1 := HP1.out
                go_wp2_with (refine wpList_store_cell 33 _ _ rfl (by rfl) (i := 1) rfl rfl HA5.out (by simp) (by kernel_rfl) rfl ?_; intro w6 hS; have HS6 := Lib.hid hS; clear hS)
                go_meet
                exact ⟨rfl, Lib.hid HS6.out.box, Lib.hid (HO1.out.off HS6.out HGA.out), Lib.hid (HS6.out.bel HX5.out (Nat.le_of_eq HGE.out))⟩
            case rest =>
              obtain ⟨rfl, HA6, HO6, HX6⟩ := hcut
              generalize wc = w6 at *
              clear a2 la lar HA5 HB45 HX5 HX45 HO1 HA4
              have hbW := HBW.out
              go_upto_if 79 with fail
              go_cut [12] (fun s12 wx => ∃ b : Bool, s12 = .bool (A || b) ∧ Hid (b = (uW && !uT)) ∧ Hid (∃ x1 T, Area l d b T ∧ BoxAt wx ga (arr2 p (.slice va1 n1 vc1) x1) 34 ∧ RowsB wx (.slice va1 n1 vc1) (Lb.encL (oneL l d) f5) ∧ RowsB wx x1 T) ∧ Hid (Ext w3 wx))
              case first =>
                cases uW with
                | false =>
                  go_wp2_with fail
                  go_meet
                  exact ⟨false, by simp, Lib.hid rfl, Lib.hid ⟨_, _, .none, HA6.out, HO6.out.rows, RowsB.nil⟩, HX6⟩
                | true =>
                  obtain ⟨hem0, hem1⟩ := encI_ok (nextI_valid HVW.out HGT.out) hlt
                  have hpos := enc_pos (l := oneL (nextI l) d) (x := f5) (by rw [valid_oneW (nextI_valid HVW.out HGT.out) hlt, f5_get hlt]; rfl)
                  have HM0 := Lib.hid hem0
                  have HM1 := Lib.hid hem1
                  have HPOS := Lib.hid hpos
                  have HB96 := Lib.hid (HB9c.out.ext HX6.out)
                  have HZ6 := Lib.hid (HI3.out.zb.ext HX6.out)
                  clear hem0 hem1 hpos
                  go_upto_region 22 with (first | (refine wpList_loadR 29 _ rfl (by rfl) rfl (LabAt.of_box HB96.out).load ?_) | (go_at_call 7; go_loud (refine (encode_any (oneL (nextI l) d) (.slice (some ⟨z, 0, none⟩) 5 5) f5 _ (by decide) (z5_at HZ6.out)).mono ?_); rintro e w7 ⟨v2, rfl, ho2, hx7⟩; rw [HM1.out] at ho2; rw [HM0.out]; have HO2 := Lib.hid ho2; have HX67 := Lib.hid hx7; have HX7 := Lib.hid (HX6.out.trans hx7); clear ho2 hx7))
                  obtain ⟨a2, c2, hv2, hc2⟩ := HO2.out.rows.shape
                  subst hv2
                  obtain ⟨b2, o2, rfl, hb2, _⟩ := HO2.out.rows.get 0 HPOS.out
                  have hrows := (enc_rowsI (l := oneL (nextI l) d) (x := f5) (by rw [valid_oneW (nextI_valid HVW.out HGT.out) hlt, f5_get hlt]; rfl)).1
                  obtain ⟨n2, hn2⟩ : ∃ n2, (Lb.encL (oneL (nextI l) d) f5).length = n2 := ⟨_, rfl⟩
                  have hn2p : 1 ≤ n2 := by have := HPOS.out; omega
                  rw [hn2] at HO2 hc2 hrows ⊢
                  obtain ⟨k2, hk2⟩ : ∃ k2, n2 = k2 + 1 := ⟨n2 - 1, by omega⟩
                  have HK2 := Lib.hid hk2
                  have HN2 := Lib.hid hn2
                  have hs1 : (n2 : Int) - 1 = (k2 : Int) := by omega
                  have hs2 : Go.RowKit.wrap64 (k2 : Int) = (k2 : Int) := by unfold Go.RowKit.wrap64; omega
                  have HA7 := Lib.hid (HA6.out.ext HX67.out)
                  have HO17 := Lib.hid (HO6.out.ext HX67.out)
                  have HB97 := Lib.hid (HB9c.out.ext HX7.out)
                  have HLE : Hid (ga < w6.heap.size) := Lib.hid HA6.out.lt
                  have e2 := HB97.out.cell 2 (v := .int .u64 (un G)) (by rw [← HG.out]; rfl)
                  have le2 := HB97.out.lt
                  have lga := HA7.out.lt
                  have hbT := HBT.out
                  have hkI : (k2 : Int) ≤ (c2 : Int) := by omega
                  have hk0 : (0 : Int) ≤ (k2 : Int) := by omega
                  have hc0 : ¬ (c2 = 0) := by omega
                  have hc0I : ¬ ((c2 : Int) = 0) := by omega
                  clear hn2 hk2 hrows hn2p
                  go_upto_if 91 with fail
                  clear hbT hbW hgd
                  cases uT with
                  | true =>
                    cases p with
                    | false =>
                      have hp3 : (un G).tmod 2 = 1 := HP3.out
                      go_wp2_with (refine wpList_store_cell 33 _ _ rfl (by rfl) (i := 1) rfl rfl HA7.out (by simp [arr2]) (by kernel_rfl) rfl ?_; intro w8 hS; have HS8 := Lib.hid hS; clear hS)
                      go_meet
                      exact ⟨false, by simp, Lib.hid rfl, Lib.hid ⟨_, _, .torn k2 (by rw [HN2.out, HK2.out]; exact Nat.lt_succ_self _), HS8.out.box, (HO17.out.off HS8.out HGA.out).rows, (HO2.out.off HS8.out HLE.out).rows.take k2 (by rw [HK2.out]; exact Nat.le_succ _)⟩, Lib.hid (HS8.out.bel HX7.out (Nat.le_of_eq HGE.out))⟩
                    | true =>
                      have hp3 : (un G).tmod 2 = 0 := HP3.out
                      go_wp2_with (refine wpList_store_cell 33 _ _ rfl (by rfl) (i := 0) rfl rfl HA7.out (by simp [arr2]) (by kernel_rfl) rfl ?_; intro w8 hS; have HS8 := Lib.hid hS; clear hS)
                      go_meet
                      exact ⟨false, by simp, Lib.hid rfl, Lib.hid ⟨_, _, .torn k2 (by rw [HN2.out, HK2.out]; exact Nat.lt_succ_self _), HS8.out.box, (HO17.out.off HS8.out HGA.out).rows, (HO2.out.off HS8.out HLE.out).rows.take k2 (by rw [HK2.out]; exact Nat.le_succ _)⟩, Lib.hid (HS8.out.bel HX7.out (Nat.le_of_eq HGE.out))⟩
                  | false =>
                    cases p with
                    | false =>
                      have hp3 : (un G).tmod 2 = 1 := HP3.out
                      go_wp2_with (refine wpList_store_cell 33 _ _ rfl (by rfl) (i := 1) rfl rfl HA7.out (by simp [arr2]) (by kernel_rfl) rfl ?_; intro w8 hS; have HS8 := Lib.hid hS; clear hS)
                      go_meet
                      exact ⟨true, by simp, Lib.hid rfl, Lib.hid ⟨_, _, .whole, HS8.out.box, (HO17.out.off HS8.out HGA.out).rows, (HO2.out.off HS8.out HLE.out).rows⟩, Lib.hid (HS8.out.bel HX7.out (Nat.le_of_eq HGE.out))⟩
                    | true =>
                      have hp3 : (un G).tmod 2 = 0 := HP3.out
                      go_wp2_with (refine wpList_store_cell 33 _ _ rfl (by rfl) (i := 0) rfl rfl HA7.out (by simp [arr2]) (by kernel_rfl) rfl ?_; intro w8 hS; have HS8 := Lib.hid hS; clear hS)
                      go_meet
                      exact ⟨true, by simp, Lib.hid rfl, Lib.hid ⟨_, _, .whole, HS8.out.box, (HO17.out.off HS8.out HGA.out).rows, (HO2.out.off HS8.out HLE.out).rows⟩, Lib.hid (HS8.out.bel HX7.out (Nat.le_of_eq HGE.out))⟩
              case rest =>
                obtain ⟨b, rfl, HBE, HAR, HX9⟩ := hcut
                generalize wc = w9 at *
                have hNew : ∃ y0 y1 L, BoxAt w9 ga #[y0, y1] 34 ∧ L = (impL l (fun _ => b) d).1 ∧ Calls Tryz.prog 8 #[y0, y1] w9 (fun e w' => ∃ ad c, e = .returned (.tuple #[labV L (.slice ad 5 c), .int .i64 0]) ∧ OwnG Value.bool 4 w' 0 (.slice ad 5 c) f5 ∧ Ext w9 w') := by
                  obtain ⟨x1, T, har, hbox, hr1, hr2⟩ := HAR.out
                  obtain ⟨ht1, ht2⟩ := area_rows hlt HVW.out HGT.out har
                  have he := enc_rowsI (l := oneL l d) (x := f5) (by rw [valid_oneW HVW.out hlt, f5_get hlt]; rfl)
                  have ha := area_new hlt HVW.out HGT.out har
                  have fin : ∀ {o : Option Lb.LX} {e : Ending} {w' : World}, o = some (impL l (fun _ => b) d) → NewEnd w9 o e w' → ∃ ad c, e = .returned (.tuple #[labV (impL l (fun _ => b) d).1 (.slice ad 5 c), .int .i64 0]) ∧ OwnG Value.bool 4 w' 0 (.slice ad 5 c) f5 ∧ Ext w9 w' := by
                    intro o e w' ho hE
                    subst ho
                    obtain ⟨dv, he, hd, hx⟩ := hE
                    have hd2 : OwnG Value.bool 4 w' 0 dv f5 := by
                      have h0 : (labD (some (impL l (fun _ => b) d))).2 = f5 := by
                        show (impL l (fun _ => b) d).2 = f5
                        exact impL_snd
                      rw [h0] at hd
                      exact hd
                    obtain ⟨a, c, rfl⟩ := hd2.shape
                    exact ⟨a, c, he, hd2, hx⟩
                  cases p with
                  | false =>
                    exact ⟨_, _, _, hbox, rfl, (newest_any _ _ _ T w9 (by omega) he.2.2 ht1 ht2 hr1 hr2).mono (fun e w' hE => fin (ha.1 HP2.out) hE)⟩
                  | true =>
                    exact ⟨_, _, _, hbox, rfl, (newest_any _ _ T _ w9 ht1 ht2 (by omega) he.2.2 hr2 hr1).mono (fun e w' hE => fin (ha.2 HP2.out) hE)⟩
                obtain ⟨y0, y1, L, hbx, hL, hC⟩ := hNew
                have HC := Lib.hid hC
                have HL := Lib.hid hL
                have c0 := hbx.cell 0 (v := y0) rfl
                have c1 := hbx.cell 1 (v := y1) rfl
                have lga := hbx.lt
                clear hbx hC hL HAR
                go_upto_region 29 with (first | (go_at_call 8; go_loud (refine HC.out.mono ?_); rintro e w10 ⟨ad, ac, rfl, hda, hx10⟩; have HD10 := Lib.hid hda; have HX10 := Lib.hid (HX9.out.trans hx10); clear hda hx10 c0 c1 lga) | (refine wpList_store_box 29 _ _ rfl (by rfl) rfl rfl (BoxAt.new w10 _ _) rfl (by kernel_rfl) (labA_one rfl) ?_; intro w11 hS; have HX11 := Lib.hid (show Ext w10 w11 from hS.bel (Ext.alloc _ _) (Nat.le_refl _)); have HB11 := Lib.hid (show BoxAt w11 w10.heap.size (labA L (.slice ad 5 ac)) 29 from hS.box); clear hS))
                have HI11 := Lib.hid (HI3.out.ext (HX10.out.trans HX11.out))
                have HX311 := Lib.hid (HX10.out.trans HX11.out)
                obtain ⟨ps, hps, hown, hrd⟩ := HI11.out.labs
                have hreads := HI11.out.reads
                obtain ⟨la, lc, hle, _⟩ := hown.shape
                obtain ⟨ra, rc, hre⟩ := hreads.shape
                rw [List.length_replicate] at hre
                rw [hps] at hle
                subst hle hre
                have HOW := Lib.hid hown
                have HRE := Lib.hid hreads
                have HRD := Lib.hid hrd
                have HPS := Lib.hid hps
                have HFI := Lib.hid HI11.out.first
                clear hown hreads hrd hps
                have hNs : N ≤ w11.heap.size := by have h1 := HN3.out; have h2 := HX311.out.size; omega
                have HNS := Lib.hid hNs
                clear hNs
                go_wp2_with (first | (refine wpList_loadR 29 _ rfl (by rfl) rfl (LabAt.of_box HB11.out).load ?_) | (at_builtin; refine Classical.byContradiction (fun hN => ?_)))
                refine hN ?_
                clear hN
                have e12 : Ext w11 (w11.alloc (.cells (labA L (.slice ad 5 ac)) 29)) := Ext.alloc _ _
                have hown12 := HOW.out.ext e12
                refine wpList_append_lab rfl _ _ rfl N _ ps rfl hown12 rfl (BoxAt.new _ _ _) rfl (by have := HPS.out; omega) (Nat.le_trans HNS.out e12.size) ?_
                intro v13 w13 ho13 hg13
                have hown12b : OwnLs (w11.alloc (.cells (labA L (.slice ad 5 ac)) 29)) N (.slice la d lc) ps := hown12
                have hg13b : (w11.alloc (.cells (labA L (.slice ad 5 ac)) 29)).grownBy w13 (Value.slice la d lc).ownBlock := hg13
                have hx13 : Ext w3 (w11.alloc (.cells (labA L (.slice ad 5 ac)) 29)) := HX311.out.trans e12
                have hrow : ∀ g, (Value.slice la d lc).ownBlock = some g → N ≤ g := fun g hq => (hown12b.lt g hq).1
                have hN13 : N ≤ w13.heap.size := Nat.le_trans (Nat.le_trans HNS.out e12.size) hg13b.size
                have HX13 : Hid (Ext w w13) := Lib.hid ((Ext.trans (show Ext w w3 from HX3.out) hx13).grown hg13b (Ext.trans (show Ext w w3 from HX3.out) hx13).size (fun q hq => by have h1 := hrow q hq; have h2 := hwN.out; omega))
                have HO13 := Lib.hid ho13
                have HR13 := Lib.hid ((HRE.out.ext e12).keptL hown12b (by decide) hg13b)
                have HD13 := Lib.hid (((HD10.out.ext HX11.out).ext e12).keptL hown12b (by decide) hg13b)
                have HRD13 : Hid (∀ (i : Nat) (h : i < ps.length), (impL l (fun i => wb.getLsbD i && !tb.getLsbD i) i).1 = ps[i].1 ∧ OwnG Value.bool 4 w13 0 ps[i].2 (impL l (fun i => wb.getLsbD i && !tb.getLsbD i) i).2) := Lib.hid (fun i h => ⟨(HRD.out i h).1, ((HRD.out i h).2.ext e12).keptL hown12b (by decide) hg13b⟩)
                have HB413 := Lib.hid (BoxAt.grown (HB4c.out.ext hx13) hg13b (fun e => by have h1 := hrow g4 e.symm; have h2 := H4N.out; omega))
                have HB913 := Lib.hid (BoxAt.grown (HB9c.out.ext hx13) hg13b (fun e => by have h1 := hrow g9 e.symm; have h2 := H9N.out; omega))
                have HZ13 := Lib.hid (BoxAt.grown (HI3.out.zb.ext hx13) hg13b (fun e => by have h1 := hrow z e.symm; have h2 := HZN.out; omega))
                have HN13 := Lib.hid hN13
                clear ho13 hg13 hg13b hown12b hown12 e12 hx13 hrow hN13 HOW HRE HRD HI11 HI3 HX311 HX11 HX10 HD10 HB4c HB9c HX3 HX9 HB11 HN3 HNS
                go_wp2_with (at_builtin; refine Classical.byContradiction (fun hN => ?_))
                refine hN ?_
                clear hN
                have e14 : Ext w13 (w13.alloc (.cells #[.bool true] 4)) := Ext.alloc _ _
                have hown14 := HR13.out.ext e14
                refine wpList_append_one rfl _ _ _ rfl N 4 i0 (.bool false) 1 Tryz.underlying27 hI hI0 hI1 hI2 rfl _ _ _ rfl hown14 _ (.bool true) rfl rfl (cell_new1 _ _ _) (by rw [List.length_replicate]; unfold maxLen; omega) (by rw [List.length_replicate]; omega) (Nat.le_trans HN13.out e14.size) ?_
                intro v15 w15 ho15 hg15 _
                have hown14b : OwnG Value.bool 4 (w13.alloc (.cells #[.bool true] 4)) N (.slice ra d rc) (List.replicate d true) := hown14
                have hg15b : (w13.alloc (.cells #[.bool true] 4)).grownBy w15 (Value.slice ra d rc).ownBlock := hg15
                have hrow : ∀ g, (Value.slice ra d rc).ownBlock = some g → N ≤ g := fun g hq => (hown14b.lt g hq).1
                have hN15 : N ≤ w15.heap.size := Nat.le_trans (Nat.le_trans HN13.out e14.size) hg15b.size
                have HR15 : Hid (OwnG Value.bool 4 w15 N v15 (List.replicate (d + 1) true)) := Lib.hid (by rw [List.replicate_succ']; exact OwnG.snoc (enc := Value.bool) (x := true) ho15)
                have HO15 := Lib.hid ((HO13.out.ext e14).kept hown14b (by decide) hg15b)
                have HX15 : Hid (Ext w w15) := Lib.hid ((HX13.out.trans e14).grown hg15b (HX13.out.trans e14).size (fun q hq => by have h1 := hrow q hq; have h2 := hwN.out; omega))
                have HB415 := Lib.hid (BoxAt.grown (HB413.out.ext e14) hg15b (fun e => by have h1 := hrow g4 e.symm; have h2 := H4N.out; omega))
                have HB915 := Lib.hid (BoxAt.grown (HB913.out.ext e14) hg15b (fun e => by have h1 := hrow g9 e.symm; have h2 := H9N.out; omega))
                have HZ15 := Lib.hid (BoxAt.grown (HZ13.out.ext e14) hg15b (fun e => by have h1 := hrow z e.symm; have h2 := HZN.out; omega))
                have keep : ∀ {dv : Value}, OwnG Value.bool 4 w13 0 dv f5 → OwnG Value.bool 4 w15 0 dv f5 := fun h => OwnG.kept (h.ext e14) hg15b (.inl (dead_ne (h.ext e14) hown14b HFI.out))
                have hLn : L = (impL l (fun i => wb.getLsbD i && !tb.getLsbD i) d).1 := by
                  rw [HL.out]
                  unfold impL
                  simp only [HBE.out, HUW.out, HUT.out]
                have HI15 : Hid (ImpR w15 N z l (fun i => wb.getLsbD i && !tb.getLsbD i) (d + 1) v13 v15) := Lib.hid ⟨⟨ps ++ [(L, .slice ad 5 ac)], by rw [List.length_append, HPS.out]; rfl, HO15.out, fun i h => by
                  by_cases hi : i < ps.length
                  · rw [List.getElem_append_left hi]
                    obtain ⟨h1, h2⟩ := HRD13.out i hi
                    rw [impL_snd] at h2 ⊢
                    exact ⟨h1, keep h2⟩
                  · rw [List.length_append] at h
                    have hid : i = ps.length := by simp at h; omega
                    subst hid
                    rw [List.getElem_append_right (Nat.le_refl _)]
                    simp only [Nat.sub_self, List.getElem_cons_zero]
                    rw [impL_snd]
                    refine ⟨?_, keep HD13.out⟩
                    rw [HPS.out]
                    exact hLn.symm⟩, HR15.out, fun h => absurd h (Nat.succ_ne_zero d), HZ15.out⟩
                have HAN : Hid ((List.range (d + 1)).any (fun i => wb.getLsbD i && !(tb.getLsbD i)) = (A || b)) := Lib.hid (by
                  rw [List.range_succ, List.any_append, HAA.out, HBE.out]
                  simp [HUW.out, HUT.out])
                have HN15 := Lib.hid hN15
                clear ho15 hg15 hg15b hown14 hown14b e14 hrow hN15 keep hLn HR15 HO15 HZ15 HR13 HD13 HRD13 HB413 HB913 HZ13 HN13 HX13 HO13
                go_wp2_with fail
                go_roundw
                case rel => exact ⟨d + 1, by omega, by go_num, by rw [HAN.out], HI15, Lib.hid ⟨_, HB415.out⟩, Lib.hid ⟨_, HB915.out⟩, HX15, HN15⟩
                case measure => simp [intOf]; omega
          · have hd5 : d = 5 := by omega
            have hdI : ¬ ((d : Int) < 5) := by omega
            obtain ⟨A, hA⟩ : ∃ A, ((List.range d).any fun i => wb.getLsbD i && !tb.getLsbD i) = A := ⟨_, rfl⟩
            rw [hA]
            have HAA := Lib.hid hA
            clear hA
            obtain ⟨ps, hps, hown, hrd⟩ := HI.out.labs
            have hread := HI.out.reads.slice
            rw [hd5, show List.replicate 5 true = t5 from rfl] at hread
            obtain ⟨ls, hls⟩ : ∃ ls, (List.range 5).map (impL l (fun i => wb.getLsbD i && !(tb.getLsbD i))) = ls := ⟨_, rfl⟩
            have hn5 : ls.length = 5 := by rw [← hls]; rfl
            have hget : ∀ i, i < 5 → ldN ls i = impL l (fun i => wb.getLsbD i && !(tb.getLsbD i)) i := fun i hi => by
              rw [ldN_in (by rw [hn5]; exact hi)]
              subst hls
              simp
            have hLA := hown.labs (ls := ls) (by rw [hn5, hps, hd5]) (fun i h1 h2 => by
              obtain ⟨e1, e2⟩ := hrd i h2
              rw [← ldN_in h1, hget i (by omega)]
              exact ⟨e1, e2.slice⟩)
            have HZr := Lib.hid HI.out.zb
            have HGET := Lib.hid hget
            have HLA := Lib.hid hLA
            have HRE := Lib.hid hread
            have HN5 := Lib.hid hn5
            clear hown hrd hps hget hls HI
            obtain ⟨al, cl, rfl⟩ := hLA.shape
            obtain ⟨ar, cr, rfl⟩ := hread.shape
            obtain ⟨hcl, b1, o1, rfl, hin⟩ := hLA.inn (by rw [hn5]; decide)
            have HIN := Lib.hid hin
            rw [hn5] at hcl HLA ⊢
            rw [show t5.length = 5 from rfl] at HRE ⊢
            clear hin hLA hread hn5
            obtain ⟨k, hk⟩ : ∃ k, kb.toNat % 5 = k := ⟨_, rfl⟩
            have hkr : k < 5 := by omega
            have hub : ub kb = (kb.toNat : Int) := rfl
            have hm1 : ub kb % 5 = (k : Int) := by rw [hub]; omega
            have hm2 : (ub kb).tmod 5 = (k : Int) := (Int.tmod_eq_emod_of_nonneg (by rw [hub]; omega)).trans hm1
            have hk0 : (0 : Int) ≤ (k : Int) := by omega
            have hk5 : (k : Int) ≤ 5 := by omega
            have hkc : (k : Int) ≤ (cl : Int) := by omega
            have HKR := Lib.hid hkr
            clear hk hub
            have HLT : Hid ((turnL ls k).length = 5) := Lib.hid (by rw [turnL_len]; exact HN5.out)
            have HTL : Hid (∀ i, i < 5 → ldN (turnL ls k) i = impL l (fun i => wb.getLsbD i && !(tb.getLsbD i)) (El.rot 5 k i)) := Lib.hid (fun i hi => by
              have h := turn_ld (ls := ls) (s := k) (by rw [HN5.out]; exact HKR.out) (by rw [HN5.out]; exact hi)
              rw [HN5.out] at h
              rw [h]
              exact HGET.out _ (El.rot_lt HKR.out hi))
            have HDL : Hid (∀ i, (ldN (turnL ls k) i).2.length ≤ 100000) := Lib.hid (fun i => by
              by_cases hi : i < 5
              · rw [HTL.out i hi, impL_snd]; decide
              · unfold ldN; rw [getD_out (by rw [HLT.out]; exact hi)]; decide)
            have HLAW := Lib.hid (imp_law (l := l) (dn := fun i => wb.getLsbD i && !(tb.getLsbD i)) (L := turnL ls k) (fun i => El.rot 5 k i) HLT.out HTL.out (fun i hi => El.rot_lt HKR.out hi) (fun e he => ⟨(e + 5 - k) % 5, Nat.mod_lt _ (by decide), by have := HKR.out; show El.rot 5 k ((e + 5 - k) % 5) = e; unfold El.rot; split <;> omega⟩) HVW.out HGT.out)
            go_upto_region 32 with fail
            refine wp_region_extTB (.take 1 (.take 2 (.take 3 (.take 5 (.take 6 (.take 7 (.take 9 (.two 0 15 (.two 4 15 (.two 8 15 (.two 10 15 (.take 11 (.take 12 (.take 13 (.take 14 (.one 15 (.one 16 (.take 17 (.take 18 .done)))))))) (.one 10 (.take 11 (.take 12 (.take 13 (.take 14 (.one 16 (.take 17 (.take 18 .done))))))))) (.one 8 (.one 10 (.take 11 (.take 12 (.take 13 (.take 14 (.one 16 (.take 17 (.take 18 .done)))))))))) (.one 4 (.one 8 (.one 10 (.take 11 (.take 12 (.take 13 (.take 14 (.one 16 (.take 17 (.take 18 .done))))))))))) (.one 0 (.one 4 (.one 8 (.one 10 (.take 11 (.take 12 (.take 13 (.take 14 (.one 16 (.take 17 (.take 18 .done))))))))))))))))))) (by kernel_rfl) (by kernel_rfl) (fun wc hxc => ?_)
            have hq := hxc
            iterate 7 ((first
             | refine extT_move rfl rfl (by rfl) (by rfl) ?_
             | refine extT_assign rfl rfl (by rfl) (by rfl) ?_
             | refine extT_pick_t rfl rfl (by rfl) (by rfl) (by rfl) ?_
             | refine extT_pick_f rfl rfl (by rfl) (by rfl) (by rfl) ?_
             | (apply extT_take rfl (by rfl)
                · intro w' hS
                  have hSc := hS.cells
                  (try simp only [World.size_drew, World.cell?_drew] at hSc)
                  go_simp
                  (try simp (disch := omega) only [↓IntWalk.iteOmega])
                  try rfl)
             | refine extT_pass rfl (by rfl) ?_); simp only [Act.put, setZa, setZ0, setZ1])
            refine extT_twoB rfl rfl (by rfl) (by rfl) (fun K hK => ?_) (fun K hK => ?_)
            go_simp
            have HO0 := Lib.hid (OwnLD.lit (W := wr) hq)
            skip
            replace hq := hq.trans (Ext.alloc _ (.cells #[] tLab))
            skip
            refine hK _ _ hq ?_
            clear hK K
            (try simp only [Act.put, setZa, setZ0, setZ1])
            refine extT_twoB rfl rfl (by rfl) (by rfl) (fun K hK => ?_) (fun K hK => ?_)
            refine wp_of_list rfl ?_
            refine wpList_append_labsG rfl (.tmp 128) (.tmp 131) rfl wr _ [] (ls.drop k) rfl HO0.out rfl (by rw [List.length_drop, HN5.out]) (HIN.out.drop k) (by rw [List.length_drop, HN5.out]; simp; omega) ?_
            intro v2 w2 ho2 hx2 hk2
            rw [List.nil_append] at ho2
            have HO2 := Lib.hid ho2
            replace hq := hx2
            skip
            refine hK _ _ hq ?_
            clear hK K ho2 hx2 hk2
            (try simp only [Act.put, setZa, setZ0, setZ1])
            refine extT_twoB rfl rfl (by rfl) (by rfl) (fun K hK => ?_) (fun K hK => ?_)
            refine wp_of_list rfl ?_
            refine wpList_append_labsG rfl (.tmp 132) (.tmp 135) rfl wr _ (ls.drop k) (ls.take k) rfl HO2.out rfl (by rw [List.length_take, HN5.out]; omega) (HIN.out.take k) (by rw [List.length_drop, List.length_take, HN5.out]; omega) ?_
            intro v3 w3 ho3 hx3 hk3
            have HO3 : Hid (OwnLD wr w3 v3 (turnL ls k)) := Lib.hid ho3
            replace hq := hx3
            skip
            refine hK _ _ hq ?_
            clear hK K ho3 hx3 hk3
            (try simp only [Act.put, setZa, setZ0, setZ1])
            refine extT_twoB rfl rfl (by rfl) (by rfl) (fun K hK => ?_) (fun K hK => ?_)
            go_simp
            go_at_call 9
            refine (elect_any _ _ (turnL ls k) t5 _ (by rw [turnL_len, HN5.out]; decide) (by decide) HDL.out HO3.out.labs (HRE.out.ext hq)).mono ?_
            rintro e w4 ⟨dv, av, rfl, hd, ha, hx4⟩
            obtain ⟨ad, cd, rfl⟩ := hd.shape
            obtain ⟨aa, ca, rfl⟩ := ha.shape
            have HD := Lib.hid hd
            have HA := Lib.hid ha
            replace hq := hq.trans hx4
            skip
            refine hK _ _ hq ?_
            clear hK K hd ha hx4
            (try simp only [Act.put, setZa, setZ0, setZ1])
            iterate 4 ((first
             | refine extT_move rfl rfl (by rfl) (by rfl) ?_
             | refine extT_assign rfl rfl (by rfl) (by rfl) ?_
             | refine extT_pick_t rfl rfl (by rfl) (by rfl) (by rfl) ?_
             | refine extT_pick_f rfl rfl (by rfl) (by rfl) (by rfl) ?_
             | (apply extT_take rfl (by rfl)
                · intro w' hS
                  have hSc := hS.cells
                  (try simp only [World.size_drew, World.cell?_drew] at hSc)
                  go_simp
                  (try simp (disch := omega) only [i64_id, u64_id, ↓IntWalk.iteOmega, Int.tdiv_eq_ediv_of_nonneg, Int.tmod_eq_emod_of_nonneg])
                  try rfl)
             | refine extT_pass rfl (by rfl) ?_); simp only [Act.put, setZa, setZ0, setZ1])
            refine extT_doB rfl (by rfl) (fun K hK => ?_)
            go_simp
            have hal := BoxAt.new w4 zeroA tLab
            skip
            replace HD := Lib.hid (HD.out.ext (Ext.alloc _ (.cells zeroA tLab)))
            replace HA := Lib.hid (HA.out.ext (Ext.alloc _ (.cells zeroA tLab)))
            have hle := hq.size
            replace hq := hq.trans (Ext.alloc _ (.cells zeroA tLab))
            refine hK _ _ hq ?_
            clear hK K
            (try simp only [Act.put, setZa, setZ0, setZ1])
            refine extT_doB rfl (by rfl) (fun K hK => ?_)
            (try rw [show (wc.alloc (.cells #[] tLab)).heap.size = wc.heap.size + 1 from by simp] at hal hle)
            refine wp_of_list rfl ?_
            refine wpList_store_box 29 _ _ rfl (by rfl) rfl rfl hal rfl (by kernel_rfl) (labA_one rfl) ?_
            intro w5 hS
            have HQ := Lib.hid (show Ext wr w5 from hS.bel hq hle)
            have HBX := Lib.hid hS.box
            have HD5 := Lib.hid (HD.out.kept hS.grown (.inl (HD.out.not_box hal (by decide))))
            have HA5 := Lib.hid (HA.out.kept hS.grown (.inl (HA.out.not_box hal (by decide))))
            refine hK _ _ HQ.out ?_
            clear hK K hS hal hle hq
            (try simp only [Act.put])
            iterate 2 ((first
             | refine extT_move rfl rfl (by rfl) (by rfl) ?_
             | refine extT_assign rfl rfl (by rfl) (by rfl) ?_
             | refine extT_pick_t rfl rfl (by rfl) (by rfl) (by rfl) ?_
             | refine extT_pick_f rfl rfl (by rfl) (by rfl) (by rfl) ?_
             | (apply extT_take rfl (by rfl)
                · intro w' hS
                  have hSc := hS.cells
                  (try simp only [World.size_drew, World.cell?_drew] at hSc)
                  go_simp
                  (try simp (disch := omega) only [i64_id, u64_id, ↓IntWalk.iteOmega, Int.tdiv_eq_ediv_of_nonneg, Int.tmod_eq_emod_of_nonneg])
                  try rfl)
             | refine extT_pass rfl (by rfl) ?_); simp only [Act.put, setZa, setZ0, setZ1])
            refine extT_nil ?_
            skip
            rotate_left
            go_simp
            have hal := BoxAt.new w3 zeroA tLab
            skip
            replace HO3 := Lib.hid (HO3.out.ext (Ext.alloc _ (.cells zeroA tLab)))
            have hle := hq.size
            replace hq := hq.trans (Ext.alloc _ (.cells zeroA tLab))
            refine hK _ _ hq ?_
            clear hK K
            (try simp only [Act.put, setZa, setZ0, setZ1])
            refine extT_doB rfl (by rfl) (fun K hK => ?_)
            go_simp
            go_at_call 9
            refine (elect_any _ _ (turnL ls k) t5 _ (by rw [turnL_len, HN5.out]; decide) (by decide) HDL.out HO3.out.labs (HRE.out.ext hq)).mono ?_
            rintro e w4 ⟨dv, av, rfl, hd, ha, hx4⟩
            obtain ⟨ad, cd, rfl⟩ := hd.shape
            obtain ⟨aa, ca, rfl⟩ := ha.shape
            have HD := Lib.hid hd
            have HA := Lib.hid ha
            replace hq := hq.trans hx4
            replace hal := hal.ext hx4
            refine hK _ _ hq ?_
            clear hK K hd ha hx4
            (try simp only [Act.put, setZa, setZ0, setZ1])
            iterate 4 ((first
             | refine extT_move rfl rfl (by rfl) (by rfl) ?_
             | refine extT_assign rfl rfl (by rfl) (by rfl) ?_
             | refine extT_pick_t rfl rfl (by rfl) (by rfl) (by rfl) ?_
             | refine extT_pick_f rfl rfl (by rfl) (by rfl) (by rfl) ?_
             | (apply extT_take rfl (by rfl)
                · intro w' hS
                  have hSc := hS.cells
                  (try simp only [World.size_drew, World.cell?_drew] at hSc)
                  go_simp
                  (try simp (disch := omega) only [i64_id, u64_id, ↓IntWalk.iteOmega, Int.tdiv_eq_ediv_of_nonneg, Int.tmod_eq_emod_of_nonneg])
                  try rfl)
             | refine extT_pass rfl (by rfl) ?_); simp only [Act.put, setZa, setZ0, setZ1])
            refine extT_doB rfl (by rfl) (fun K hK => ?_)
            (try rw [show (wc.alloc (.cells #[] tLab)).heap.size = wc.heap.size + 1 from by simp] at hal hle)
            refine wp_of_list rfl ?_
            refine wpList_store_box 29 _ _ rfl (by rfl) rfl rfl hal rfl (by kernel_rfl) (labA_one rfl) ?_
            intro w5 hS
            have HQ := Lib.hid (show Ext wr w5 from hS.bel hq hle)
            have HBX := Lib.hid hS.box
            have HD5 := Lib.hid (HD.out.kept hS.grown (.inl (HD.out.not_box hal (by decide))))
            have HA5 := Lib.hid (HA.out.kept hS.grown (.inl (HA.out.not_box hal (by decide))))
            refine hK _ _ HQ.out ?_
            clear hK K hS hal hle hq
            (try simp only [Act.put])
            iterate 2 ((first
             | refine extT_move rfl rfl (by rfl) (by rfl) ?_
             | refine extT_assign rfl rfl (by rfl) (by rfl) ?_
             | refine extT_pick_t rfl rfl (by rfl) (by rfl) (by rfl) ?_
             | refine extT_pick_f rfl rfl (by rfl) (by rfl) (by rfl) ?_
             | (apply extT_take rfl (by rfl)
                · intro w' hS
                  have hSc := hS.cells
                  (try simp only [World.size_drew, World.cell?_drew] at hSc)
                  go_simp
                  (try simp (disch := omega) only [i64_id, u64_id, ↓IntWalk.iteOmega, Int.tdiv_eq_ediv_of_nonneg, Int.tmod_eq_emod_of_nonneg])
                  try rfl)
             | refine extT_pass rfl (by rfl) ?_); simp only [Act.put, setZa, setZ0, setZ1])
            refine extT_nil ?_
            skip
            rotate_left
            go_simp
            have hal := BoxAt.new w2 zeroA tLab
            have hne : v2.ownBlock ≠ some w2.heap.size := fun e => Nat.lt_irrefl _ (HO2.out.lt _ e).2
            replace HO2 := Lib.hid (HO2.out.ext (Ext.alloc _ (.cells zeroA tLab)))
            have hle := hq.size
            replace hq := hq.trans (Ext.alloc _ (.cells zeroA tLab))
            refine hK _ _ hq ?_
            clear hK K
            (try simp only [Act.put, setZa, setZ0, setZ1])
            refine extT_doB rfl (by rfl) (fun K hK => ?_)
            refine wp_of_list rfl ?_
            refine wpList_append_labsG rfl (.tmp 132) (.tmp 135) rfl wr _ (ls.drop k) (ls.take k) rfl HO2.out rfl (by rw [List.length_take, HN5.out]; omega) (HIN.out.take k) (by rw [List.length_drop, List.length_take, HN5.out]; omega) ?_
            intro v3 w3 ho3 hx3 hk3
            have HO3 : Hid (OwnLD wr w3 v3 (turnL ls k)) := Lib.hid ho3
            replace hq := hx3
            obtain ⟨hal, hne⟩ := hk3 _ _ _ hal hne
            refine hK _ _ hq ?_
            clear hK K ho3 hx3 hk3
            (try simp only [Act.put, setZa, setZ0, setZ1])
            refine extT_doB rfl (by rfl) (fun K hK => ?_)
            go_simp
            go_at_call 9
            refine (elect_any _ _ (turnL ls k) t5 _ (by rw [turnL_len, HN5.out]; decide) (by decide) HDL.out HO3.out.labs (HRE.out.ext hq)).mono ?_
            rintro e w4 ⟨dv, av, rfl, hd, ha, hx4⟩
            obtain ⟨ad, cd, rfl⟩ := hd.shape
            obtain ⟨aa, ca, rfl⟩ := ha.shape
            have HD := Lib.hid hd
            have HA := Lib.hid ha
            replace hq := hq.trans hx4
            replace hal := hal.ext hx4
            refine hK _ _ hq ?_
            clear hK K hd ha hx4
            (try simp only [Act.put, setZa, setZ0, setZ1])
            iterate 4 ((first
             | refine extT_move rfl rfl (by rfl) (by rfl) ?_
             | refine extT_assign rfl rfl (by rfl) (by rfl) ?_
             | refine extT_pick_t rfl rfl (by rfl) (by rfl) (by rfl) ?_
             | refine extT_pick_f rfl rfl (by rfl) (by rfl) (by rfl) ?_
             | (apply extT_take rfl (by rfl)
                · intro w' hS
                  have hSc := hS.cells
                  (try simp only [World.size_drew, World.cell?_drew] at hSc)
                  go_simp
                  (try simp (disch := omega) only [i64_id, u64_id, ↓IntWalk.iteOmega, Int.tdiv_eq_ediv_of_nonneg, Int.tmod_eq_emod_of_nonneg])
                  try rfl)
             | refine extT_pass rfl (by rfl) ?_); simp only [Act.put, setZa, setZ0, setZ1])
            refine extT_doB rfl (by rfl) (fun K hK => ?_)
            (try rw [show (wc.alloc (.cells #[] tLab)).heap.size = wc.heap.size + 1 from by simp] at hal hle)
            refine wp_of_list rfl ?_
            refine wpList_store_box 29 _ _ rfl (by rfl) rfl rfl hal rfl (by kernel_rfl) (labA_one rfl) ?_
            intro w5 hS
            have HQ := Lib.hid (show Ext wr w5 from hS.bel hq hle)
            have HBX := Lib.hid hS.box
            have HD5 := Lib.hid (HD.out.kept hS.grown (.inl (HD.out.not_box hal (by decide))))
            have HA5 := Lib.hid (HA.out.kept hS.grown (.inl (HA.out.not_box hal (by decide))))
            refine hK _ _ HQ.out ?_
            clear hK K hS hal hle hq
            (try simp only [Act.put])
            iterate 2 ((first
             | refine extT_move rfl rfl (by rfl) (by rfl) ?_
             | refine extT_assign rfl rfl (by rfl) (by rfl) ?_
             | refine extT_pick_t rfl rfl (by rfl) (by rfl) (by rfl) ?_
             | refine extT_pick_f rfl rfl (by rfl) (by rfl) (by rfl) ?_
             | (apply extT_take rfl (by rfl)
                · intro w' hS
                  have hSc := hS.cells
                  (try simp only [World.size_drew, World.cell?_drew] at hSc)
                  go_simp
                  (try simp (disch := omega) only [i64_id, u64_id, ↓IntWalk.iteOmega, Int.tdiv_eq_ediv_of_nonneg, Int.tmod_eq_emod_of_nonneg])
                  try rfl)
             | refine extT_pass rfl (by rfl) ?_); simp only [Act.put, setZa, setZ0, setZ1])
            refine extT_nil ?_
            skip
            rotate_left
            go_simp
            have hal := BoxAt.new (wc.alloc (.cells #[] tLab)) zeroA tLab
            have hne : (Value.slice (some ⟨wc.heap.size, 0, none⟩) 0 0).ownBlock ≠ some (wc.alloc (.cells #[] tLab)).heap.size := fun e => Nat.lt_irrefl _ (HO0.out.lt _ e).2
            replace HO0 := Lib.hid (HO0.out.ext (Ext.alloc _ (.cells zeroA tLab)))
            have hle := hq.size
            replace hq := hq.trans (Ext.alloc _ (.cells zeroA tLab))
            refine hK _ _ hq ?_
            clear hK K
            (try simp only [Act.put, setZa, setZ0, setZ1])
            refine extT_doB rfl (by rfl) (fun K hK => ?_)
            refine wp_of_list rfl ?_
            refine wpList_append_labsG rfl (.tmp 128) (.tmp 131) rfl wr _ [] (ls.drop k) rfl HO0.out rfl (by rw [List.length_drop, HN5.out]) (HIN.out.drop k) (by rw [List.length_drop, HN5.out]; simp; omega) ?_
            intro v2 w2 ho2 hx2 hk2
            rw [List.nil_append] at ho2
            have HO2 := Lib.hid ho2
            replace hq := hx2
            obtain ⟨hal, hne⟩ := hk2 _ _ _ hal hne
            refine hK _ _ hq ?_
            clear hK K ho2 hx2 hk2
            (try simp only [Act.put, setZa, setZ0, setZ1])
            refine extT_doB rfl (by rfl) (fun K hK => ?_)
            refine wp_of_list rfl ?_
            refine wpList_append_labsG rfl (.tmp 132) (.tmp 135) rfl wr _ (ls.drop k) (ls.take k) rfl HO2.out rfl (by rw [List.length_take, HN5.out]; omega) (HIN.out.take k) (by rw [List.length_drop, List.length_take, HN5.out]; omega) ?_
            intro v3 w3 ho3 hx3 hk3
            have HO3 : Hid (OwnLD wr w3 v3 (turnL ls k)) := Lib.hid ho3
            replace hq := hx3
            obtain ⟨hal, hne⟩ := hk3 _ _ _ hal hne
            refine hK _ _ hq ?_
            clear hK K ho3 hx3 hk3
            (try simp only [Act.put, setZa, setZ0, setZ1])
            refine extT_doB rfl (by rfl) (fun K hK => ?_)
            go_simp
            go_at_call 9
            refine (elect_any _ _ (turnL ls k) t5 _ (by rw [turnL_len, HN5.out]; decide) (by decide) HDL.out HO3.out.labs (HRE.out.ext hq)).mono ?_
            rintro e w4 ⟨dv, av, rfl, hd, ha, hx4⟩
            obtain ⟨ad, cd, rfl⟩ := hd.shape
            obtain ⟨aa, ca, rfl⟩ := ha.shape
            have HD := Lib.hid hd
            have HA := Lib.hid ha
            replace hq := hq.trans hx4
            replace hal := hal.ext hx4
            refine hK _ _ hq ?_
            clear hK K hd ha hx4
            (try simp only [Act.put, setZa, setZ0, setZ1])
            iterate 4 ((first
             | refine extT_move rfl rfl (by rfl) (by rfl) ?_
             | refine extT_assign rfl rfl (by rfl) (by rfl) ?_
             | refine extT_pick_t rfl rfl (by rfl) (by rfl) (by rfl) ?_
             | refine extT_pick_f rfl rfl (by rfl) (by rfl) (by rfl) ?_
             | (apply extT_take rfl (by rfl)
                · intro w' hS
                  have hSc := hS.cells
                  (try simp only [World.size_drew, World.cell?_drew] at hSc)
                  go_simp
                  (try simp (disch := omega) only [i64_id, u64_id, ↓IntWalk.iteOmega, Int.tdiv_eq_ediv_of_nonneg, Int.tmod_eq_emod_of_nonneg])
                  try rfl)
             | refine extT_pass rfl (by rfl) ?_); simp only [Act.put, setZa, setZ0, setZ1])
            refine extT_doB rfl (by rfl) (fun K hK => ?_)
            (try rw [show (wc.alloc (.cells #[] tLab)).heap.size = wc.heap.size + 1 from by simp] at hal hle)
            refine wp_of_list rfl ?_
            refine wpList_store_box 29 _ _ rfl (by rfl) rfl rfl hal rfl (by kernel_rfl) (labA_one rfl) ?_
            intro w5 hS
            have HQ := Lib.hid (show Ext wr w5 from hS.bel hq hle)
            have HBX := Lib.hid hS.box
            have HD5 := Lib.hid (HD.out.kept hS.grown (.inl (HD.out.not_box hal (by decide))))
            have HA5 := Lib.hid (HA.out.kept hS.grown (.inl (HA.out.not_box hal (by decide))))
            refine hK _ _ HQ.out ?_
            clear hK K hS hal hle hq
            (try simp only [Act.put])
            iterate 2 ((first
             | refine extT_move rfl rfl (by rfl) (by rfl) ?_
             | refine extT_assign rfl rfl (by rfl) (by rfl) ?_
             | refine extT_pick_t rfl rfl (by rfl) (by rfl) (by rfl) ?_
             | refine extT_pick_f rfl rfl (by rfl) (by rfl) (by rfl) ?_
             | (apply extT_take rfl (by rfl)
                · intro w' hS
                  have hSc := hS.cells
                  (try simp only [World.size_drew, World.cell?_drew] at hSc)
                  go_simp
                  (try simp (disch := omega) only [i64_id, u64_id, ↓IntWalk.iteOmega, Int.tdiv_eq_ediv_of_nonneg, Int.tmod_eq_emod_of_nonneg])
                  try rfl)
             | refine extT_pass rfl (by rfl) ?_); simp only [Act.put, setZa, setZ0, setZ1])
            refine extT_nil ?_
            skip
            rotate_left
            go_simp
            have hal := BoxAt.new wc zeroA tLab
            skip
            skip
            have hle := hq.size
            replace hq := hq.trans (Ext.alloc _ (.cells zeroA tLab))
            refine hK _ _ hq ?_
            clear hK K
            (try simp only [Act.put, setZa, setZ0, setZ1])
            refine extT_doB rfl (by rfl) (fun K hK => ?_)
            go_simp
            have HO0 := Lib.hid (OwnLD.lit (W := wr) hq)
            have hne : (Value.slice (some ⟨(wc.alloc (.cells zeroA tLab)).heap.size, 0, none⟩) 0 0).ownBlock ≠ some wc.heap.size := fun e => absurd hal.lt (by have h2 : (wc.alloc (.cells zeroA tLab)).heap.size = wc.heap.size := Option.some.inj e; rw [h2]; exact Nat.lt_irrefl _)
            replace hq := hq.trans (Ext.alloc _ (.cells #[] tLab))
            replace hal := hal.ext (Ext.alloc _ (.cells #[] tLab))
            rw [show (wc.alloc (.cells zeroA tLab)).heap.size = wc.heap.size + 1 from by simp] at HO0 hne
            refine hK _ _ hq ?_
            clear hK K
            (try simp only [Act.put, setZa, setZ0, setZ1])
            refine extT_doB rfl (by rfl) (fun K hK => ?_)
            refine wp_of_list rfl ?_
            refine wpList_append_labsG rfl (.tmp 128) (.tmp 131) rfl wr _ [] (ls.drop k) rfl HO0.out rfl (by rw [List.length_drop, HN5.out]) (HIN.out.drop k) (by rw [List.length_drop, HN5.out]; simp; omega) ?_
            intro v2 w2 ho2 hx2 hk2
            rw [List.nil_append] at ho2
            have HO2 := Lib.hid ho2
            replace hq := hx2
            obtain ⟨hal, hne⟩ := hk2 _ _ _ hal hne
            refine hK _ _ hq ?_
            clear hK K ho2 hx2 hk2
            (try simp only [Act.put, setZa, setZ0, setZ1])
            refine extT_doB rfl (by rfl) (fun K hK => ?_)
            refine wp_of_list rfl ?_
            refine wpList_append_labsG rfl (.tmp 132) (.tmp 135) rfl wr _ (ls.drop k) (ls.take k) rfl HO2.out rfl (by rw [List.length_take, HN5.out]; omega) (HIN.out.take k) (by rw [List.length_drop, List.length_take, HN5.out]; omega) ?_
            intro v3 w3 ho3 hx3 hk3
            have HO3 : Hid (OwnLD wr w3 v3 (turnL ls k)) := Lib.hid ho3
            replace hq := hx3
            obtain ⟨hal, hne⟩ := hk3 _ _ _ hal hne
            refine hK _ _ hq ?_
            clear hK K ho3 hx3 hk3
            (try simp only [Act.put, setZa, setZ0, setZ1])
            refine extT_doB rfl (by rfl) (fun K hK => ?_)
            go_simp
            go_at_call 9
            refine (elect_any _ _ (turnL ls k) t5 _ (by rw [turnL_len, HN5.out]; decide) (by decide) HDL.out HO3.out.labs (HRE.out.ext hq)).mono ?_
            rintro e w4 ⟨dv, av, rfl, hd, ha, hx4⟩
            obtain ⟨ad, cd, rfl⟩ := hd.shape
            obtain ⟨aa, ca, rfl⟩ := ha.shape
            have HD := Lib.hid hd
            have HA := Lib.hid ha
            replace hq := hq.trans hx4
            replace hal := hal.ext hx4
            refine hK _ _ hq ?_
            clear hK K hd ha hx4
            (try simp only [Act.put, setZa, setZ0, setZ1])
            iterate 4 ((first
             | refine extT_move rfl rfl (by rfl) (by rfl) ?_
             | refine extT_assign rfl rfl (by rfl) (by rfl) ?_
             | refine extT_pick_t rfl rfl (by rfl) (by rfl) (by rfl) ?_
             | refine extT_pick_f rfl rfl (by rfl) (by rfl) (by rfl) ?_
             | (apply extT_take rfl (by rfl)
                · intro w' hS
                  have hSc := hS.cells
                  (try simp only [World.size_drew, World.cell?_drew] at hSc)
                  go_simp
                  (try simp (disch := omega) only [i64_id, u64_id, ↓IntWalk.iteOmega, Int.tdiv_eq_ediv_of_nonneg, Int.tmod_eq_emod_of_nonneg])
                  try rfl)
             | refine extT_pass rfl (by rfl) ?_); simp only [Act.put, setZa, setZ0, setZ1])
            refine extT_doB rfl (by rfl) (fun K hK => ?_)
            (try rw [show (wc.alloc (.cells #[] tLab)).heap.size = wc.heap.size + 1 from by simp] at hal hle)
            refine wp_of_list rfl ?_
            refine wpList_store_box 29 _ _ rfl (by rfl) rfl rfl hal rfl (by kernel_rfl) (labA_one rfl) ?_
            intro w5 hS
            have HQ := Lib.hid (show Ext wr w5 from hS.bel hq hle)
            have HBX := Lib.hid hS.box
            have HD5 := Lib.hid (HD.out.kept hS.grown (.inl (HD.out.not_box hal (by decide))))
            have HA5 := Lib.hid (HA.out.kept hS.grown (.inl (HA.out.not_box hal (by decide))))
            refine hK _ _ HQ.out ?_
            clear hK K hS hal hle hq
            (try simp only [Act.put])
            iterate 2 ((first
             | refine extT_move rfl rfl (by rfl) (by rfl) ?_
             | refine extT_assign rfl rfl (by rfl) (by rfl) ?_
             | refine extT_pick_t rfl rfl (by rfl) (by rfl) (by rfl) ?_
             | refine extT_pick_f rfl rfl (by rfl) (by rfl) (by rfl) ?_
             | (apply extT_take rfl (by rfl)
                · intro w' hS
                  have hSc := hS.cells
                  (try simp only [World.size_drew, World.cell?_drew] at hSc)
                  go_simp
                  (try simp (disch := omega) only [i64_id, u64_id, ↓IntWalk.iteOmega, Int.tdiv_eq_ediv_of_nonneg, Int.tmod_eq_emod_of_nonneg])
                  try rfl)
             | refine extT_pass rfl (by rfl) ?_); simp only [Act.put, setZa, setZ0, setZ1])
            refine extT_nil ?_
            skip
            rotate_left
            all_goals
              obtain ⟨tE, tC, tQ⟩ := HLAW.out
              rw [tE]
              have HTC := Lib.hid tC
              have hd2 := (eqL_iff.1 tQ).2
              rw [hd2] at tQ
              have HX5 := Lib.hid (Ext.trans (show Ext w wr from HXr.out) HQ.out)
              have HB45 := Lib.hid (HB4.out.ext HQ.out)
              have HB95 := Lib.hid (HB9.out.ext HQ.out)
              have HZ5 := Lib.hid (HZr.out.ext HQ.out)
              obtain ⟨Y, hY⟩ : ∃ Y, (labE (turnL ls k) t5).2 = Y := ⟨_, rfl⟩
              rw [hY] at HD5 HBX hd2 ⊢
              subst hd2
              obtain ⟨P, hP⟩ : ∃ P, placesE (turnL ls k) t5 = P := ⟨_, rfl⟩
              have hpl : (placesE (turnL ls k) t5).length ≤ 60 := placesI_short
              rw [hP] at HA5 HTC hpl ⊢
              obtain ⟨M, hM⟩ : ∃ M, (labE (turnL ls k) t5).1 = M := ⟨_, rfl⟩
              rw [hM] at HBX tQ ⊢
              have hA5 := HAA.out
              rw [hd5] at hA5
              rw [hA5] at tQ
              have HTQ := Lib.hid tQ
              have HPL := Lib.hid hpl
              clear hY hP hM hA5 hpl tE tC tQ HLAW HTL HDL HLT HKR HGET HLA HRE HN5 HIN HD HA hm1 hm2 hk0 hk5 hkc hcl HQ HXr HB4 HB9 HZr
              go_upto_region 34 with (first | (refine wpList_loadR 29 _ rfl (by rfl) rfl (LabAt.of_box HB45.out).load ?_) | (refine wpList_store_box 29 _ _ rfl (by rfl) rfl rfl (BoxAt.new _ _ _) rfl (by kernel_rfl) (labA_one rfl) ?_; intro w6 hS; have HX56 := Lib.hid (show Ext w5 w6 from hS.bel (Ext.alloc _ _) (Nat.le_refl _)); have HB6 := Lib.hid hS.box; clear hS))
              have HZ6 := Lib.hid (z5_at (HZ5.out.ext HX56.out))
              have HBX6 := Lib.hid (HBX.out.ext HX56.out)
              have HD6 := Lib.hid (HD5.out.slice.ext HX56.out)
              have HA6 := Lib.hid (HA5.out.ext HX56.out)
              have HX6 := Lib.hid (Ext.trans (show Ext w w5 from HX5.out) HX56.out)
              have HB96 := Lib.hid (HB95.out.ext HX56.out)
              clear HB45 HAA
              cases A with
              | false =>
                have tq : eqL M { l with disk := j4 } f5 f5 = true := HTQ.out
                have HEQ := Lib.hid (equal_any M { l with disk := j4 } (.slice ad f5.length cd) (.slice (some ⟨z, 0, none⟩) 5 5) f5 f5 w6 (by decide) (by decide) HD6.out HZ6.out)
                rw [tq] at HEQ
                clear tq HTQ
                go_wp2_with (first | (refine wpList_loadR 29 _ rfl (by rfl) rfl (LabAt.of_box HBX6.out).load ?_) | (refine wpList_loadR 29 _ rfl (by rfl) rfl (LabAt.of_box HB6.out).load ?_) | (go_at_call 10; go_loud (refine HEQ.out.mono ?_); rintro e w7 ⟨rfl, hx7⟩; have HA7 := Lib.hid (HA6.out.ext hx7).slice; have HX7 := Lib.hid (Ext.trans (show Ext w w6 from HX6.out) hx7)) | (go_at_call 11; go_loud (refine (elcount_any _ P _ (by have := HPL.out; omega) HA7.out).mono ?_); rintro e w8 ⟨rfl, rfl⟩; rw [HTC.out]))
                go_ret
                exact ⟨rfl, HX7.out⟩
              | true =>
                have tq : eqL M { nextI l with disk := j9 } f5 f5 = true := HTQ.out
                have HT2 := Lib.hid tq
                clear HTQ tq HZ6 HBX6 HD6 HA6 HX6
                go_wp2_with (first | (refine wpList_loadR 29 _ rfl (by rfl) rfl (LabAt.of_box HB96.out).load ?_) | (refine wpList_store_box 29 _ _ rfl (by rfl) rfl rfl HB6.out rfl (by kernel_rfl) (labA_one rfl) ?_; intro w7 hS; have HX57 := Lib.hid (show Ext w5 w7 from hS.bel HX56.out (Nat.le_refl _)); have HB7 := Lib.hid hS.box; have HBX7 := Lib.hid (HBX.out.ext HX57.out); clear hS HB96 HB6) | (refine wpList_loadR 29 _ rfl (by rfl) rfl (LabAt.of_box HBX7.out).load ?_) | (refine wpList_loadR 29 _ rfl (by rfl) rfl (LabAt.of_box HB7.out).load ?_) | (go_at_call 10; go_loud (refine (equal_any M { nextI l with disk := j9 } (.slice ad f5.length cd) (.slice (some ⟨z, 0, none⟩) 5 5) f5 f5 w7 (by decide) (by decide) (HD5.out.slice.ext HX57.out) (z5_at (HZ5.out.ext HX57.out))).mono ?_); rintro e w8 ⟨rfl, hx8⟩; rw [HT2.out]; have HA8 := Lib.hid ((HA5.out.ext HX57.out).ext hx8).slice; have HX8 := Lib.hid (Ext.trans (Ext.trans (show Ext w w5 from HX5.out) HX57.out) hx8)) | (go_at_call 11; go_loud (refine (elcount_any _ P _ (by have := HPL.out; omega) HA8.out).mono ?_); rintro e w9 ⟨rfl, rfl⟩; rw [HTC.out]))
                go_ret
                exact ⟨rfl, HX8.out⟩
  · have q5 : ((n : Int) != 5) = true := by rw [bne_iff_ne]; omega
    have c15 := HB1.out.cell 15 (v := .slice ax n cx) rfl
    have c2 := HB1.out.cell 2 (v := encU l.gen) rfl
    have lb := HB1.out.lt
    go_wp2_with fail
    go_ret
    exact ⟨rfl, HX1.out⟩
end Go.Proofs.YtjabgpejmnpamaaGreatDoor
