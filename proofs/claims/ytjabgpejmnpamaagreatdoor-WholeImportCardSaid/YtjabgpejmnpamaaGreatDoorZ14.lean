/-
  Part 14 of the proof: Chapter 31 (election): Elect. Chapter 31 (election): the walk of ElectionDead. Chapter 31 (election): plain laws: each disk has at most one label; on Chapter 31 (election): the plain law of an interrupted checkpoint. WholeImport: the plain law: in any order of the disks the newest label Chapter 30 (label): parse.
-/
import Derived.Test.YtjabgpejmnpamaaGreatDoorZ13
import Derived.Test.YtjabgpejmnpamaaGreatDoorZ12
import Derived.Test.YtjabgpejmnpamaaGreatDoorZ01
set_option linter.unusedVariables false
namespace Go.Proofs.YtjabgpejmnpamaaGreatDoor
open Go.RowKit
def ElectEnd (w : World) (ls : List LD) (rd : List Bool) (e : Ending) (w' : World) : Prop :=
  ∃ dv av, e = .returned (.tuple #[labV (labE ls rd).1 dv, av, .int .i64 (errE ls rd : Nat)]) ∧ OwnG Value.bool 4 w' 0 dv (labE ls rd).2 ∧ OwnG encI 3 w' 0 av (placesE ls rd) ∧ Ext w w'
abbrev zeroA : Array Value := labA ld0.1 (.slice none 0 0)
theorem results_cell_tmp2 {P : Program} {fn : Func} {p a b : Tmp} {ty : TypeId} (h : fn.results = #[.cell p ty, .tmp a, .tmp b]) (tmps : Array Value) (w : World) {g : Nat} {v : Value}
    (hp : tmps.getD p undef = .pointer (some ⟨g, 0, none⟩)) (hl : (loadVar ty ⟨g, 0, none⟩).run P w = .ok v w) :
    (results fn tmps).run P w = .ok (.tuple #[v, tmps.getD a undef, tmps.getD b undef]) w := by
  have hp' : tmps[p]?.getD undef = .pointer (some ⟨g, 0, none⟩) := by simpa using hp
  simp [results, h, hp', asAddr, hl]
theorem cand_next {ls : List LD} {rd : List Bool} {i : Nat} : (List.range (i + 1)).filter (candN ls rd) = if candN ls rd i then (List.range i).filter (candN ls rd) ++ [i] else (List.range i).filter (candN ls rd) := by
  rw [List.range_succ, List.filter_append]
  cases h : candN ls rd i <;> simp [h]
theorem OwnG.other {α : Type} {enc : α → Value} {e : TypeId} {w w' : World} {B g : Nat} {v : Value} {l : List α} (h : OwnG enc e w B v l) (ho : ∀ k, k ≠ g → w'.heap[k]? = w.heap[k]?) (hg : g < B) : OwnG enc e w' B v l :=
  ⟨h.1, h.2.imp id (fun ⟨q, cap, cur, hv, hq, hh, r⟩ => ⟨q, cap, cur, hv, hq, (ho q (by omega)).trans hh, r⟩)⟩
def fillN (D j : Nat) : List Int := List.replicate j (-1) ++ List.replicate (D - j) 0
theorem fillN_len {D j : Nat} (h : j ≤ D) : (fillN D j).length = D := by unfold fillN; simp; omega
theorem fillN_next {D j : Nat} (h : j < D) : (fillN D j).set j (-1) = fillN D (j + 1) := by
  unfold fillN
  rw [List.set_append_right _ _ (by simp), List.length_replicate, Nat.sub_self]
  obtain ⟨r, hr⟩ : ∃ r, D - j = r + 1 := ⟨D - j - 1, by omega⟩
  rw [hr, List.replicate_succ, List.set_cons_zero, List.replicate_succ', show D - (j + 1) = r by omega]
  simp
theorem fillN_all (D : Nat) : fillN D D = List.replicate D (-1) := by unfold fillN; simp
theorem OwnG.made (w : World) (n base : Nat) (hb : base ≤ w.heap.size) (hm : n ≤ maxLen) : OwnG encI 3 (w.alloc (.cells (madeCells #[.int .i64 0] n) 3)) base (.slice (some ⟨w.heap.size, 0, none⟩) n n) (fillN n 0) := by
  have hl : (fillN n 0).length = n := fillN_len (Nat.zero_le _)
  have hc : madeCells #[.int .i64 0] n = ((fillN n 0).map encI).toArray := by
    obtain ⟨c, h, hs, hc⟩ := World.rowIs_made w (.int .i64 0) n 3
    have h2 : (w.alloc (.cells (madeCells #[.int .i64 0] n) 3)).heap[w.heap.size]? = some (.cells (madeCells #[.int .i64 0] n) 3 (0, 0)) := heap_alloc_new _ _
    rw [h2] at h
    injection h with h
    injection h with h _ _
    subst h
    refine Array.ext_getElem? fun i => ?_
    by_cases hi : i < n
    · rw [hc i hi]; simp [fillN, hi]
    · rw [Array.getElem?_eq_none (by omega)]; simp [fillN]; omega
  have := OwnG.lit (enc := encI) w (fillN n 0) 3 base hb (by rw [hl]; exact hm) _ hc
  rwa [hl] at this
def PlacesOk (n : Nat) (l : List Int) : Prop := ∀ z, z ∈ l → z = -1 ∨ ∃ j : Nat, j < n ∧ z = j
theorem places_start (n D : Nat) : PlacesOk n (List.replicate D (-1)) := fun z hz => .inl (List.mem_replicate.1 hz).2
theorem places_step {ls : List LD} {m n i : Nat} {A : List Int} (h : PlacesOk n A) (hi : i < n) : PlacesOk n (El.stepA (genN ls) (diskN ls) (curN ls m) (oldN ls m) A i) := by
  unfold El.stepA
  split
  · split
    · intro z hz
      rcases List.mem_or_eq_of_mem_set hz with hz | rfl
      · exact h z hz
      · exact .inr ⟨i, hi, rfl⟩
    · exact h
  · exact h
theorem step_len {ls : List LD} {m i : Nat} {A : List Int} : (El.stepA (genN ls) (diskN ls) (curN ls m) (oldN ls m) A i).length = A.length := by
  unfold El.stepA
  split
  · split
    · rw [List.length_set]
    · rfl
  · rfl
def foldP (ls : List LD) (m D : Nat) (cs : List Nat) : List Int := cs.foldl (El.stepA (genN ls) (diskN ls) (curN ls m) (oldN ls m)) (List.replicate D (-1))
theorem foldP_next {ls : List LD} {m D : Nat} {cs : List Nat} {k : Nat} (h : k < cs.length) : foldP ls m D (cs.take (k + 1)) = El.stepA (genN ls) (diskN ls) (curN ls m) (oldN ls m) (foldP ls m D (cs.take k)) cs[k] := by
  unfold foldP
  rw [List.take_succ_eq_append_getElem h, List.foldl_append]; rfl
theorem foldP_ok {ls : List LD} {m D n : Nat} {cs : List Nat} (h : ∀ i, i ∈ cs → i < n) : ∀ k, k ≤ cs.length → (foldP ls m D (cs.take k)).length = D ∧ PlacesOk n (foldP ls m D (cs.take k))
  | 0, _ => ⟨by simp [foldP], by rw [List.take_zero]; exact places_start n D⟩
  | k + 1, hk => by
    have ih := foldP_ok (ls := ls) (m := m) (D := D) h k (by omega)
    rw [foldP_next (show k < cs.length by omega)]
    exact ⟨by rw [step_len]; exact ih.1, places_step ih.2 (h _ (List.getElem_mem _))⟩
set_option maxRecDepth 100000 in
set_option maxHeartbeats 4000000 in
theorem elect_any (vl vr : Value) (ls : List LD) (rd : List Bool) (w : World) (hn : ls.length ≤ 900) (hr : rd.length ≤ 100000) (hdl : ∀ i, (ldN ls i).2.length ≤ 100000)
    (h : LabsAt w vl ls) (hrd : SliceAt Value.bool w vr rd) :
    Calls Tryz.prog 9 #[vl, vr] w (ElectEnd w ls rd) := by
  obtain ⟨i0, hI, hI0, hI1, hI2⟩ := info_parts infoI
  obtain ⟨al, cl, rfl⟩ := h.shape
  obtain ⟨ar, cr, rfl⟩ := hrd.shape
  have HL := Lib.hid h
  have HR := Lib.hid hrd
  have e1 : Ext w (w.alloc (.cells zeroA 29)) := Ext.alloc _ _
  have b1 : BoxAt (w.alloc (.cells zeroA 29)) w.heap.size zeroA 29 := BoxAt.new _ _ _
  have s1 : w.heap.size < (w.alloc (.cells zeroA 29)).heap.size := by simp
  have HE1 := Lib.hid e1
  have HB1 := Lib.hid b1
  clear h hrd e1 b1
  by_cases hlen : ls.length = rd.length
  · have HLEN := Lib.hid hlen
    have HCL : Hid (candL ls rd = (List.range ls.length).filter (candN ls rd)) := rfl
    have hck : ∀ i, i < ls.length → candN ls rd i = (rd.getD i false && validL (ldN ls i).1 (ldN ls i).2) := fun i _ => rfl
    have HCK := Lib.hid hck
    obtain ⟨n, hnn⟩ : ∃ n, ls.length = n := ⟨_, rfl⟩
    have HN1 := Lib.hid hnn
    have HN2 := Lib.hid (hlen.symm.trans hnn)
    rw [← hlen] at HR ⊢
    rw [hnn] at HR HL hn HCL HCK ⊢
    clear hlen hnn hck hr
    go_enter Tryz.func9, Tryz.ntmps9
    go_wp2_with fail
    go_loopw [7, 26] (fun ct it wr => ∃ i : Nat, i ≤ n ∧ it = .int .i64 i ∧ Hid (OwnG encN 3 wr w.heap.size ct ((List.range i).filter (candN ls rd))) ∧ Hid (BoxAt wr w.heap.size zeroA 29) ∧ Hid (Ext w wr)) (fun _ it _ => n - (intOf it).toNat)
    case atStart => exact ⟨0, Nat.zero_le _, rfl, Lib.hid OwnG.nil, HB1, HE1⟩
    case round =>
      obtain ⟨i, hi, rfl, HC, HB, HX⟩ := hrel
      by_cases hlt : i < n
      · have hin : (i : Int) < (n : Int) := by omega
        have hil : i < ls.length := by rw [HN1.out]; exact hlt
        have hir : i < rd.length := by rw [HN2.out]; exact hlt
        obtain ⟨bl, ol, rfl, dv, hA, hD⟩ := (HL.out.ext HX.out).at i hil
        obtain ⟨ad, cd, rfl⟩ := hD.shape
        obtain ⟨br, or_, rfl, hbr, hcr⟩ := (HR.out.ext HX.out).get i hir
        rw [← getD_in (d := false) hir] at hcr
        have HV := Lib.hid (fun w' (e : Ext wr w') => valid_any (ldN ls i).1 _ _ w' (hdl i) (hD.ext e))
        have HCN := Lib.hid (cand_next (ls := ls) (rd := rd) (i := i))
        have HCI := Lib.hid (HCK.out i hlt)
        have hcl : ((List.range i).filter (candN ls rd)).length ≤ 900 := Nat.le_trans (List.length_filter_le _ _) (by rw [List.length_range]; omega)
        obtain ⟨av, cv, rfl⟩ := HC.out.shape
        generalize (List.range i).filter (candN ls rd) = cs at *
        obtain ⟨k, hk⟩ : ∃ k, cs.length = k := ⟨_, rfl⟩
        have HK := Lib.hid hk
        rw [hk] at HC hcl ⊢
        have HA := Lib.hid hA
        generalize rd.getD i false = r at *
        generalize (ldN ls i).2.length = q at *
        generalize (ldN ls i).2 = x at *
        generalize (ldN ls i).1 = L at *
        clear hk hA hD
        go_upto_region 7 with (first | (refine wpList_loadR 29 _ rfl (by rfl) rfl HA.out.load ?_) | (refine wpList_store_lab (w0 := wr) (l := L) (d := .slice ad q cd) _ _ rfl (by rfl) rfl rfl (BoxAt.new _ _ _) rfl rfl (Ext.alloc _ _) (Nat.le_refl _) ?_; intro w2 hx2 hb2 hs2))
        have hcr2 := (hx2.cell _ _ hbr).trans hcr
        have hbr2 := Nat.lt_of_lt_of_le hbr hx2.size
        have hl2 := hb2.lt
        have HX2 := Lib.hid hx2
        have HB2 := Lib.hid hb2
        generalize validL L x = b at *
        clear hx2 hb2 hs2 hcr hbr
        cases r with
        | false =>
          rw [Bool.false_and] at HCI
          go_wp2_with fail
          go_roundw
          case rel => exact ⟨i + 1, by omega, by go_num, by rw [HCN.out, HCI.out, if_neg (by simp)]; exact HC.out.ext HX2.out, HB.out.ext HX2.out, HX.out.trans HX2.out⟩
          case measure => simp [intOf]; omega
        | true =>
          rw [Bool.true_and] at HCI
          go_wp2_with (refine wpList_loadR 29 _ rfl (by rfl) rfl (LabAt.of_box HB2.out).load ?_)
          go_at_call 30
          refine (HV.out _ HX2.out).mono ?_
          rintro e w3 ⟨rfl, hb3⟩
          have HX3 : Hid (Ext wr w3) := HX2.out.trans hb3
          clear hb3
          cases b with
          | false =>
            go_wp2_with fail
            go_roundw
            case rel => exact ⟨i + 1, by omega, by go_num, by rw [HCN.out, HCI.out, if_neg (by simp)]; exact HC.out.ext HX3.out, HB.out.ext HX3.out, HX.out.trans HX3.out⟩
            case measure => simp [intOf]; omega
          | true =>
            go_wp2_with (at_builtin; refine Classical.byContradiction (fun hN => ?_))
            refine hN ?_
            clear hN
            have e1 : Ext w3 (w3.alloc (.cells #[encN i] 3)) := Ext.alloc _ _
            have hown := (HC.out.ext HX3.out).ext e1
            have hsz := (HX.out.trans HX3.out).size
            have hbw := (HB.out.ext HX3.out).ext e1
            refine wpList_append_one rfl _ _ _ rfl w.heap.size 3 i0 (.int .i64 0) 8 Tryz.underlying40 hI hI0 hI1 hI2 rfl _ _ _ rfl hown _ (encN i) rfl rfl (cell_new1 _ _ _) (by rw [HK.out]; unfold maxLen; omega) (by rw [HK.out]; omega) (by simp; omega) ?_
            intro v6 w6 ho6 hg6 _
            have HX6 : Hid (Ext w w6) := ((HX.out.trans HX3.out).trans e1).grown hg6 (by simp; omega) (fun q hq => (hown.lt q hq).1)
            have HO6 : Hid (OwnG encN 3 w6 w.heap.size v6 (cs ++ [i])) := OwnG.snoc (enc := encN) (x := i) ho6
            have HB6 : Hid (BoxAt w6 w.heap.size zeroA 29) := hbw.grown hg6 (fun e => hown.not_box hbw (by decide) e.symm)
            clear ho6 hg6 hown e1 hbw
            go_wp2
            go_roundw
            case rel => exact ⟨i + 1, by omega, by go_num, by rw [HCN.out, HCI.out, if_pos rfl]; exact HO6, HB6, HX6⟩
            case measure => simp [intOf]; omega
      · have hin : i = n := by omega
        subst hin
        have hin2 : ¬ ((i : Int) < (i : Int)) := by omega
        rw [← HCL.out] at HC
        have hcl : (candL ls rd).length ≤ 900 := by rw [HCL.out]; exact Nat.le_trans (List.length_filter_le _ _) (by rw [List.length_range]; exact hn)
        obtain ⟨av, cv, rfl⟩ := HC.out.shape
        by_cases hcz : candL ls rd = []
        · have hb := best_nil hcz
          have HER := Lib.hid (errE_none HLEN.out hb)
          have hbad := bad_lab (ls := ls) (rd := rd) (by rw [HER.out]; decide)
          have HLB := Lib.hid hbad.1
          have HPL := Lib.hid hbad.2
          rw [hcz] at HC ⊢
          clear hbad hb hcz
          go_wp2_with (refine wpList_store_lab (w0 := w) (l := ld0.1) (d := .slice none 0 0) _ _ rfl (by rfl) rfl rfl HB.out rfl rfl HX.out (Nat.le_refl _) ?_; intro w2 hx2 hb2 hs2)
          have hld := lab_result hb2
          refine bodyPost_ret (results_cell_tmp2 rfl _ _ rfl hld) rfl ⟨.slice none 0 0, .slice none 0 0, by rw [HER.out, HLB.out]; rfl, by rw [HLB.out]; exact OwnG.nil, by rw [HPL.out]; exact OwnG.nil, hx2⟩
        · obtain ⟨hgp, hbest⟩ := choose_best (ls := ls) (rd := rd) (by rw [HN1.out]; omega) hcz
          obtain ⟨hm, hcm⟩ := best_facts hbest
          have hvm := valid_facts (cand_valid hcm)
          have HFM := Lib.hid (places_fold hbest)
          have HBE := Lib.hid hbest
          have hcp : 0 < (candL ls rd).length := List.length_pos_iff.2 hcz
          have HPC := Lib.hid (cand_places (ls := ls) (rd := rd))
          have HCM : Hid (∀ y, y ∈ candL ls rd → y < i ∧ candN ls rd y = true) := fun y hy => by unfold candL at hy; rw [List.mem_filter, List.mem_range, HN1.out] at hy; exact hy
          have HCH := Lib.hid (fun (w' : World) (e : Ext wr w') => choose_any _ _ ls (candL ls rd) w' (by rw [HN1.out]; omega) (by omega) cand_places hdl hgp ((HL.out.ext HX.out).ext e) (HC.out.slice.ext e))
          generalize El.chooseF (diskN ls) (deadL ls) (gOf ls (maxG ls (candL ls rd)) (candL ls rd)) = m at *
          generalize candL ls rd = cs at *
          obtain ⟨c, hc⟩ : ∃ c, cs.length = c := ⟨_, rfl⟩
          have HCC := Lib.hid hc
          rw [hc] at HC hcl hcp HCH ⊢
          have hc0 : ((c : Int) == 0) = false := by rw [beq_eq_false_iff_ne]; omega
          clear hcz hbest hgp hc
          rw [HN1.out] at hm
          go_wp2_with fail
          go_at_call 38
          refine (HCH.out _ (Ext.refl _)).mono ?_
          rintro e w3 ⟨rfl, hb3⟩
          have HX3 : Hid (Ext w w3) := HX.out.trans hb3
          have HB3 := Lib.hid (HB.out.ext hb3)
          have HC3 := Lib.hid (HC.out.slice.ext hb3)
          obtain ⟨bl, ol, rfl, dv, hA, hD⟩ := (HL.out.ext HX3.out).at m (by rw [HN1.out]; exact hm)
          obtain ⟨ad, cd, rfl⟩ := hD.shape
          have HA := Lib.hid hA
          have HD := Lib.hid hD
          have hmi : (m : Int) < (i : Int) := by omega
          have hm0 : (0 : Int) ≤ (m : Int) := by omega
          clear hA hD hb3
          go_upto_region 13 with (first | (refine wpList_loadR 29 _ rfl (by rfl) rfl HA.out.load ?_) | (refine wpList_store_lab (w0 := w3) (l := (ldN ls m).1) (d := .slice ad (ldN ls m).2.length cd) _ _ rfl (by rfl) rfl rfl (BoxAt.new _ _ _) rfl rfl (Ext.alloc _ _) (Nat.le_refl _) ?_; intro w4 hx4 hb4 hs4))
          obtain ⟨hv1, hv2, hv3, hv4, hv5, hv6, hv7, hv8, _, _⟩ := hvm
          have hDd : (ldN ls m).1.c.d = (disksN ls m : Int) := by unfold disksN; omega
          have hDl : (ldN ls m).2.length = disksN ls m := by unfold disksN; omega
          have hD4 : 4 ≤ disksN ls m ∧ disksN ls m ≤ 60 := by unfold disksN; omega
          have c4 : w4.cell? ⟨w3.heap.size, 4, none⟩ = some (.int .i64 (disksN ls m : Nat)) := by rw [← hDd]; exact hb4.cell 4 rfl
          have HB4 := Lib.hid hb4
          have HX4 := Lib.hid hx4
          have hg10 := hb4.lt
          have HDD : Hid (disksN ls m = disksN ls m) := rfl
          obtain ⟨D, hDe⟩ : ∃ D, disksN ls m = D := ⟨_, rfl⟩
          have HDE := Lib.hid hDe
          rw [hDe] at c4 hD4 hDl HFM
          have HDL := Lib.hid hDl
          rw [hDl] at HB4 HD
          clear hDd hDl hDe hb4 hx4 hs4 hv1 hv2 hv3 hv4 hv5 hv6 hv7 hv8 HDD
          have hmk : ∀ w : World, (Instr.makeSlice 40 (.int .i64 (D : Int)) (.int .i64 (D : Int))).run Tryz.prog w = .ok (.slice (some ⟨w.heap.size, 0, none⟩) D D) (w.alloc (.cells (madeCells #[.int .i64 0] D) 3)) :=
            run_make_row' 40 3 (.int .i64 0) 8 Tryz.underlying40 infoI rfl .i64 .i64 D (by omega) (by first | omega | (unfold maxLen; omega))
          go_wp2_with fail
          have HO5 : Hid (OwnG encI 3 (w4.alloc (.cells (madeCells #[.int .i64 0] D) 3)) w4.heap.size (.slice (some ⟨w4.heap.size, 0, none⟩) D D) (fillN D 0)) := OwnG.made w4 D w4.heap.size (Nat.le_refl _) (by unfold maxLen; omega)
          have HX5 : Hid (Ext w4 (w4.alloc (.cells (madeCells #[.int .i64 0] D) 3))) := Ext.alloc _ _
          generalize w4.alloc (.cells (madeCells #[.int .i64 0] D) 3) = w5 at *
          clear hmk c4
          go_loopw [60] (fun jt wr => ∃ j : Nat, j ≤ D ∧ jt = .int .i64 j ∧ Hid (OwnG encI 3 wr w4.heap.size (.slice (some ⟨w4.heap.size, 0, none⟩) D D) (fillN D j)) ∧ Hid (Ext w4 wr)) (fun jt _ => D - (intOf jt).toNat)
          case atStart => exact ⟨0, Nat.zero_le _, rfl, HO5, HX5⟩
          case round =>
            obtain ⟨j, hj, rfl, HO, HXr⟩ := hrel
            have hfl : (fillN D j).length = D := fillN_len hj
            by_cases hjD : j < D
            · have hjI : (j : Int) < (D : Int) := by omega
              have hcj := HO.out.at hfl.symm (show j < (fillN D j).length by rw [hfl]; exact hjD)
              have hfj := HO.out.frees hfl.symm j
              have hlj : w4.heap.size < wr.heap.size := (OwnG.lt HO.out w4.heap.size (by simp [Value.ownBlock])).2
              have HO6 : Hid (OwnG encI 3 (wr.setCell ⟨w4.heap.size, j, none⟩ (.int .i64 (-1))) w4.heap.size (.slice (some ⟨w4.heap.size, 0, none⟩) D D) (fillN D (j + 1))) := by
                show OwnG _ _ _ _ _ _
                rw [← fillN_next hjD]; exact HO.out.put hfl.symm j (-1)
              generalize (fillN D j)[j]'(by rw [hfl]; exact hjD) = zj at *
              clear hfl
              go_wp2_with fail
              go_roundw
              case rel => exact ⟨j + 1, by omega, by go_num, HO6, HXr.out.setOwn (Nat.le_refl _)⟩
              case measure => simp [intOf]; omega
            · have hjD : j = D := by omega
              subst hjD
              have hin3 : ¬ ((j : Int) < (j : Int)) := by omega
              rw [fillN_all] at HO
              have HXW4 : Hid (Ext w w4) := HX3.out.trans HX4.out
              have HST : Hid (OwnG encI 3 wr w4.heap.size (.slice (some ⟨w4.heap.size, 0, none⟩) j j) (foldP ls m j (cs.take 0))) := HO
              clear HO HO5 HX5
              generalize wr = wo at *
              go_wp2_with fail
              go_loopw [69] (fun kt wq => ∃ k : Nat, k ≤ c ∧ kt = .int .i64 k ∧ Hid (OwnG encI 3 wq w4.heap.size (.slice (some ⟨w4.heap.size, 0, none⟩) j j) (foldP ls m j (cs.take k))) ∧ Hid (Ext w4 wq)) (fun kt _ => c - (intOf kt).toNat)
              case atStart => exact ⟨0, Nat.zero_le _, rfl, HST, HXr⟩
              case round =>
                obtain ⟨k, hk, rfl, HO, HXq⟩ := hrel
                have hfp := foldP_ok (ls := ls) (m := m) (D := j) (fun y hy => (HCM.out y hy).1) k (by rw [HCC.out]; exact hk)
                by_cases hkc : k < c
                · have hkI : (k : Int) < (c : Int) := by omega
                  have hkl : k < cs.length := by rw [HCC.out]; exact hkc
                  have hxq3 : Ext w3 wr := HX4.out.trans HXq.out
                  obtain ⟨bc, oc, rfl, hbc, hcc⟩ := (HC3.out.ext hxq3).get k hkl
                  obtain ⟨hyn, hyc⟩ := HCM.out _ (List.getElem_mem hkl)
                  have HFN := Lib.hid (foldP_next (ls := ls) (m := m) (D := j) hkl)
                  generalize cs[k] = y at *
                  obtain ⟨bl', ol', hble, dvy, hAy, hDy⟩ := ((HL.out.ext HX3.out).ext hxq3).at y (by rw [HN1.out]; exact hyn)
                  cases hble
                  obtain ⟨ay, cy, rfl⟩ := hDy.shape
                  have hvy := valid_facts (cand_valid hyc)
                  have hEQ := Lib.hid (show ∀ (w' : World), Ext wr w' → Calls Tryz.prog 10 #[labV (ldN ls y).1 (.slice ay (ldN ls y).2.length cy), labV (ldN ls m).1 (.slice ad j cd)] w' (BoolEnd w' (eqN ls y m)) from fun w' e => equal_any (ldN ls y).1 (ldN ls m).1 _ _ _ _ w' (hdl y) (hdl m) (hDy.ext e) ((HD.out.ext hxq3).ext e))
                  have HAY := Lib.hid hAy
                  have HXQ3 := Lib.hid hxq3
                  have HBQ := Lib.hid (HB4.out.ext HXq.out)
                  have HDQ := Lib.hid (HD.out.ext hxq3)
                  have HVY := Lib.hid hvy
                  have HYC := Lib.hid hyc
                  have hyI : (y : Int) < (i : Int) := by omega
                  have hy0 : (0 : Int) ≤ (y : Int) := by omega
                  have HFP1 := Lib.hid hfp.1
                  have HFP2 := Lib.hid hfp.2
                  generalize foldP ls m j (cs.take k) = A at *
                  obtain ⟨qy, hqy⟩ : ∃ q, (ldN ls y).2.length = q := ⟨_, rfl⟩
                  have HQY := Lib.hid hqy
                  rw [hqy] at hEQ HAY
                  clear hxq3 hAy hDy hvy hyc hfp hqy
                  go_upto_region 23 with (first | (refine wpList_loadR 29 _ rfl (by rfl) rfl HAY.out.load ?_) | (refine wpList_store_lab (w0 := wr) (l := (ldN ls y).1) (d := .slice ay qy cy) _ _ rfl (by rfl) rfl rfl (BoxAt.new _ _ _) rfl rfl (Ext.alloc _ _) (Nat.le_refl _) ?_; intro w6 hx6 hb6 hs6))
                  have HX6 := Lib.hid hx6
                  have HB6 := Lib.hid hb6
                  have HBE6 := Lib.hid (HBQ.out.ext hx6)
                  clear hx6 hb6 hs6
                  go_wp2_with (first | (refine wpList_loadR 29 _ rfl (by rfl) rfl (LabAt.of_box HB6.out).load ?_) | (refine wpList_loadR 29 _ rfl (by rfl) rfl (LabAt.of_box HBE6.out).load ?_))
                  go_at_call 10
                  refine (hEQ.out _ HX6.out).mono ?_
                  rintro e w7 ⟨rfl, hx7⟩
                  have hLY := (LabAt.of_box HB6.out).ext hx7
                  have hLM := (LabAt.of_box HBE6.out).ext hx7
                  have HLY := Lib.hid hLY
                  have HLM := Lib.hid hLM
                  have HX7 : Hid (Ext wr w7) := HX6.out.trans hx7
                  obtain ⟨hv1, hv2, hv3, hv4, hv5, hv6, hv7, hv8, _, _⟩ := HVY.out
                  obtain ⟨dk, hdk⟩ := Int.eq_ofNat_of_zero_le hv1
                  have hdk2 : diskN ls y = dk := by unfold diskN; rw [hdk]; rfl
                  have a0 := hLY.cell0 0 (v := encU (ldN ls y).1.array) rfl
                  have a1 := hLY.cell0 1 (v := .int .i64 dk) (by rw [← hdk]; rfl)
                  have a2 := hLY.cell0 2 (v := .int .u64 (genN ls y : Nat)) rfl
                  have m0 := hLM.cell0 0 (v := encU (ldN ls m).1.array) rfl
                  have m3 := hLM.cell0 3 (v := .int .u64 ((ldN ls m).1.prev.toNat : Nat)) rfl
                  have m15 := hLM.cell0 15 (v := .slice ad j cd) rfl
                  have hl1 := hLY.2
                  have hl2 := hLM.2
                  have hdkj : eqCfg (ldN ls y).1.c (ldN ls m).1.c = true → dk < j := fun h => by
                    rw [eqCfg_iff] at h
                    have e := HDE.out
                    unfold disksN at e
                    rw [h, hdk] at hv2
                    omega
                  have hkin : eqN ls y m = true → kinN ls m y = true := eqN_kin
                  have HSTEP : Hid (El.stepA (genN ls) (diskN ls) (curN ls m) (oldN ls m) A y = if curN ls m y || oldN ls m y then (if A.getD dk (-1) < 0 ∨ genN ls (A.getD dk (-1)).toNat < genN ls y then A.set dk y else A) else A) := by show _ = _; unfold El.stepA; rw [hdk2]
                  have hcur : curN ls m y = (!((ldN ls m).2.getD dk false) && eqN ls y m) := by unfold curN deadL; rw [hdk2]
                  have hold : oldN ls m y = (!((ldN ls m).2.getD dk false) && (kinN ls m y && (genN ls y == (ldN ls m).1.prev.toNat))) := by unfold oldN deadL; rw [hdk2]
                  have hkd : kinN ls m y = ((un (ldN ls y).1.array == un (ldN ls m).1.array) && eqCfg (ldN ls y).1.c (ldN ls m).1.c) := rfl
                  have HCQ := Lib.hid (run_eq_cfg (ldN ls y).1.c (ldN ls m).1.c)
                  obtain ⟨x1, h1⟩ : ∃ z, (un (ldN ls y).1.array == un (ldN ls m).1.array) = z := ⟨_, rfl⟩
                  have n1 : (un (ldN ls y).1.array != un (ldN ls m).1.array) = !x1 := by rw [bne, h1]
                  rw [h1] at hkd
                  generalize eqCfg (ldN ls y).1.c (ldN ls m).1.c = x2 at *
                  obtain ⟨dd, hdd⟩ : ∃ z, (ldN ls m).2.getD dk false = z := ⟨_, rfl⟩
                  have HDD := Lib.hid hdd
                  rw [hdd] at hcur hold
                  obtain ⟨pg, hpg⟩ : ∃ z, (genN ls y == (ldN ls m).1.prev.toNat) = z := ⟨_, rfl⟩
                  have hpi : ((genN ls y : Int) == ((ldN ls m).1.prev.toNat : Int)) = pg := by
                    rw [← hpg, Bool.eq_iff_iff, beq_iff_eq, beq_iff_eq]; omega
                  have hpn : ((genN ls y : Int) != ((ldN ls m).1.prev.toNat : Int)) = !pg := by rw [bne, hpi]
                  rw [hpg] at hold
                  generalize kinN ls m y = kn at *
                  generalize curN ls m y = cu at *
                  generalize oldN ls m y = od at *
                  generalize eqN ls y m = E at *
                  generalize El.stepA (genN ls) (diskN ls) (curN ls m) (oldN ls m) A y = A2 at *
                  have hno : (cu || od) = false → A2 = A := fun h => by rw [HSTEP.out, h]; rfl
                  have hyes : (cu || od) = true → A2 = if A.getD dk (-1) < 0 ∨ genN ls (A.getD dk (-1)).toNat < genN ls y then A.set dk y else A := fun h => by rw [HSTEP.out, if_pos h]
                  have hcase : x1 = false ∧ (cu || od) = false ∨ x1 = true ∧ x2 = false ∧ (cu || od) = false ∨ x1 = true ∧ x2 = true ∧ (dd = true ∧ (cu || od) = false ∨ dd = false ∧ (E = true ∧ (cu || od) = true ∨ E = false ∧ (pg = false ∧ (cu || od) = false ∨ pg = true ∧ (cu || od) = true))) := by
                    rw [hcur, hold, hkd]
                    cases E with
                    | true =>
                      have := hkin rfl
                      rw [hkd] at this
                      cases x1 <;> cases x2 <;> cases dd <;> simp at this ⊢
                    | false => cases x1 <;> cases x2 <;> cases dd <;> cases pg <;> simp
                  have HNOP := Lib.hid hno
                  have HYES := Lib.hid hyes
                  have HDKJ := Lib.hid hdkj
                  clear hno hyes hdkj hcur hold hkd hkin h1 hpi hpg hdd HSTEP hdk hdk2 hv1 hv2 hv3 hv4 hv5 hv6 hv7 hv8 hLY hLM hx7
                  have hdj2 : (cu || od) = true → dk < j := fun h => HDKJ.out (by
                    rcases hcase with ⟨_, hz⟩ | ⟨_, _, hz⟩ | ⟨_, e, _⟩
                    · rw [hz] at h; cases h
                    · rw [hz] at h; cases h
                    · exact e)
                  have HDJ2 := Lib.hid hdj2
                  clear hdj2
                  obtain ⟨z, hzz⟩ : ∃ z, (cu || od) = z := ⟨_, rfl⟩
                  rw [hzz] at hcase HNOP HYES HDJ2
                  clear hzz
                  go_upto_region 24 with fail
                  go_cut [110] (fun s110 wx => s110 = .bool (!z) ∧ wx = w7)
                  case first =>
                    have hcq := HCQ.out
                    rcases hcase with ⟨rfl, rfl⟩ | ⟨rfl, rfl, rfl⟩ | ⟨rfl, rfl, hcase⟩
                    · go_wp2_with fail
                      go_meet
                      exact ⟨rfl, rfl⟩
                    · go_wp2_with (first | (refine wpList_loadR 26 _ rfl (by rfl) rfl HLY.out.cfg ?_) | (refine wpList_loadR 26 _ rfl (by rfl) rfl HLM.out.cfg ?_))
                      go_meet
                      exact ⟨rfl, rfl⟩
                    · have hdj := HDKJ.out rfl
                      have hdI : (dk : Int) < (j : Int) := by omega
                      have hd0 : (0 : Int) ≤ (dk : Int) := by omega
                      obtain ⟨bd, od_, rfl, hbd, hcd⟩ := (HDQ.out.ext HX7.out).get dk (by rw [HDL.out]; exact hdj)
                      rw [← getD_in (d := false) (show dk < (ldN ls m).2.length by rw [HDL.out]; exact hdj), HDD.out] at hcd
                      rcases hcase with ⟨rfl, rfl⟩ | ⟨rfl, ⟨rfl, rfl⟩ | ⟨rfl, ⟨rfl, rfl⟩ | ⟨rfl, rfl⟩⟩⟩
                      all_goals
                        go_wp2_with (first | (refine wpList_loadR 26 _ rfl (by rfl) rfl HLY.out.cfg ?_) | (refine wpList_loadR 26 _ rfl (by rfl) rfl HLM.out.cfg ?_))
                        go_meet
                        exact ⟨rfl, rfl⟩
                  case rest =>
                    obtain ⟨rfl, rfl⟩ := hcut
                    clear hcase n1 hpn a0 m0 m3 m15
                    cases z with
                    | false =>
                      have HZ := Lib.hid (HNOP.out rfl)
                      go_wp2_with fail
                      go_roundw
                      case rel => exact ⟨k + 1, by omega, by go_num, by rw [HFN.out, HZ.out]; exact HO.out.ext HX7.out, HXq.out.trans HX7.out⟩
                      case measure => simp [intOf]; omega
                    | true =>
                      have hdj := HDJ2.out rfl
                      have hdI : (dk : Int) < (j : Int) := by omega
                      have hd0 : (0 : Int) ≤ (dk : Int) := by omega
                      have hz : true = true := rfl
                      have HY := Lib.hid (HYES.out hz)
                      have hO7 := HO.out.ext HX7.out
                      have hdA : dk < A.length := by rw [HFP1.out]; exact hdj
                      have hA7 := hO7.at HFP1.out.symm hdA
                      have hf7 := hO7.frees HFP1.out.symm dk
                      have hl7 : w4.heap.size < wc.heap.size := (OwnG.lt hO7 w4.heap.size (by simp [Value.ownBlock])).2
                      have hpl := HFP2.out _ (List.getElem_mem hdA)
                      rw [getD_in hdA] at HY
                      have HO8 : Hid (OwnG encI 3 (wc.drew.setCell ⟨w4.heap.size, dk, none⟩ (.int .i64 y)) w4.heap.size (.slice (some ⟨w4.heap.size, 0, none⟩) j j) (A.set dk y)) := (hO7.ext (Ext.drew wc)).put HFP1.out.symm dk (y : Int)
                      have HO7 := Lib.hid hO7
                      have HX8 : Hid (Ext w4 (wc.drew.setCell ⟨w4.heap.size, dk, none⟩ (.int .i64 y))) := Ext.setOwn ((HXq.out.trans HX7.out).trans (Ext.drew _)) (Nat.le_refl _)
                      generalize A[dk] = az at *
                      clear hz hO7 hdA
                      rcases hpl with rfl | ⟨q, hq, rfl⟩
                      · have HY2 : Hid (A2 = A.set dk y) := by show _ = _; rw [HY.out, if_pos (.inl (by decide))]
                        go_wp2_with fail
                        refine wp_region_ext [(0, true), (1, true), (2, true), (3, true), (4, true), (5, true), (6, true), (7, true), (8, true), (9, true), (10, true), (11, true)] (by kernel_rfl) (by kernel_rfl) ?_
                        iterate 12 ((first
                         | refine ext_move rfl rfl (by rfl) (by rfl) ?_
                         | refine ext_assign rfl rfl (by rfl) (by rfl) ?_
                         | refine ext_pick_t rfl rfl (by rfl) (by rfl) (by rfl) ?_
                         | refine ext_pick_f rfl rfl (by rfl) (by rfl) (by rfl) ?_
                         | (apply ext_take rfl (by rfl)
                            · intro w' hS
                              have hSc := hS.cells
                              (try simp only [World.size_drew, World.cell?_drew] at hSc)
                              go_simp
                              (try simp (disch := omega) only [i64_id, u64_id, ↓IntWalk.iteOmega, Int.tdiv_eq_ediv_of_nonneg, Int.tmod_eq_emod_of_nonneg])
                              try rfl)
                         | refine ext_pass rfl (by rfl) ?_); simp only [Act.put, setZa, setZ0, setZ1])
                        refine ext_nil ?_
                        go_wp2_with fail
                        go_roundw
                        case rel => exact ⟨k + 1, by omega, by go_num, by rw [HFN.out, HY2.out]; exact HO8, HX8⟩
                        case measure => simp [intOf]; omega
                      · obtain ⟨bl2, ol2, hble2, dvq, hAq, _⟩ := (((HL.out.ext HX3.out).ext HXQ3.out).ext HX7.out).at q (by rw [HN1.out]; exact hq)
                        cases hble2
                        have cq := hAq.gen
                        have hblq := hAq.2
                        have hqI : (q : Int) < (i : Int) := by omega
                        have hq0 : (0 : Int) ≤ (q : Int) := by omega
                        have hqd : decide ((q : Int) < 0) = false := by rw [decide_eq_false_iff_not]; omega
                        rw [Int.toNat_natCast] at HY
                        generalize genN ls q = Gq at *
                        generalize genN ls y = Gy at *
                        clear hAq
                        by_cases hgq : Gq < Gy
                        · have HY2 : Hid (A2 = A.set dk y) := by show _ = _; rw [HY.out, if_pos (.inr hgq)]
                          have d5 : decide ((Gq : Int) < (Gy : Int)) = true := by rw [decide_eq_true_iff]; omega
                          have d6 : decide (Gq < Gy) = true := by rw [decide_eq_true_iff]; exact hgq
                          clear hgq
                          go_wp2_with fail
                          refine wp_region_ext [(0, true), (1, true), (2, true), (3, true), (4, true), (5, true), (6, true), (7, true), (8, true), (9, true), (10, true), (11, true)] (by kernel_rfl) (by kernel_rfl) ?_
                          iterate 12 ((first
                           | refine ext_move rfl rfl (by rfl) (by rfl) ?_
                           | refine ext_assign rfl rfl (by rfl) (by rfl) ?_
                           | refine ext_pick_t rfl rfl (by rfl) (by rfl) (by rfl) ?_
                           | refine ext_pick_f rfl rfl (by rfl) (by rfl) (by rfl) ?_
                           | (apply ext_take rfl (by rfl)
                              · intro w' hS
                                have hSc := hS.cells
                                (try simp only [World.size_drew, World.cell?_drew] at hSc)
                                go_simp
                                (try simp (disch := omega) only [i64_id, u64_id, ↓IntWalk.iteOmega, Int.tdiv_eq_ediv_of_nonneg, Int.tmod_eq_emod_of_nonneg])
                                try rfl)
                           | refine ext_pass rfl (by rfl) ?_); simp only [Act.put, setZa, setZ0, setZ1])
                          refine ext_nil ?_
                          go_wp2_with fail
                          go_roundw
                          case rel => exact ⟨k + 1, by omega, by go_num, by rw [HFN.out, HY2.out]; exact HO8, HX8⟩
                          case measure => simp [intOf]; omega
                        · have HY2 : Hid (A2 = A) := by show _ = _; rw [HY.out, if_neg (by omega)]
                          have d5 : decide ((Gq : Int) < (Gy : Int)) = false := by rw [decide_eq_false_iff_not]; omega
                          have d6 : decide (Gq < Gy) = false := by rw [decide_eq_false_iff_not]; exact hgq
                          clear hgq
                          go_wp2_with fail
                          refine wp_region_ext [(0, true), (1, true), (2, true), (3, true), (4, true), (5, true), (6, true), (7, true), (8, true), (9, true), (10, true), (11, true)] (by kernel_rfl) (by kernel_rfl) ?_
                          iterate 12 ((first
                           | refine ext_move rfl rfl (by rfl) (by rfl) ?_
                           | refine ext_assign rfl rfl (by rfl) (by rfl) ?_
                           | refine ext_pick_t rfl rfl (by rfl) (by rfl) (by rfl) ?_
                           | refine ext_pick_f rfl rfl (by rfl) (by rfl) (by rfl) ?_
                           | (apply ext_take rfl (by rfl)
                              · intro w' hS
                                have hSc := hS.cells
                                (try simp only [World.size_drew, World.cell?_drew] at hSc)
                                go_simp
                                (try simp (disch := omega) only [i64_id, u64_id, ↓IntWalk.iteOmega, Int.tdiv_eq_ediv_of_nonneg, Int.tmod_eq_emod_of_nonneg])
                                try rfl)
                           | refine ext_pass rfl (by rfl) ?_); simp only [Act.put, setZa, setZ0, setZ1])
                          refine ext_nil ?_
                          go_wp2_with fail
                          go_roundw
                          case rel => exact ⟨k + 1, by omega, by go_num, by rw [HFN.out, HY2.out]; exact HO7.out.ext (Ext.drew _), (HXq.out.trans HX7.out).trans (Ext.drew _)⟩
                          case measure => simp [intOf]; omega
                · have hkc2 : k = c := by omega
                  subst hkc2
                  have hin4 : ¬ ((k : Int) < (k : Int)) := by omega
                  rw [show cs.take k = cs by rw [← HCC.out, List.take_length]] at HO hfp
                  rw [show foldP ls m j cs = atE ls rd m from HFM.out] at HO hfp
                  have hcle := cntN_le (atE ls rd m)
                  have HES := Lib.hid (errE_some HLEN.out HBE.out)
                  have HCT := Lib.hid (fun (w' : World) (e : Ext wr w') => elcount_any _ (atE ls rd m) w' (by rw [hfp.1]; omega) (HO.out.slice.ext e))
                  rw [hfp.1] at hcle
                  obtain ⟨N, hN⟩ : ∃ N, cntN (atE ls rd m) = N := ⟨_, rfl⟩
                  rw [hN] at HES HCT hcle
                  have HFL := Lib.hid hfp.1
                  clear hN hfp
                  go_wp2_with fail
                  go_at_call 11
                  refine (HCT.out _ (Ext.refl _)).mono ?_
                  rintro e w8 ⟨rfl, rfl⟩
                  have HXW : Hid (Ext w wr) := HXW4.out.trans HXq.out
                  have HBW := Lib.hid (HB3.out.ext (HX4.out.trans HXq.out))
                  by_cases h3 : 3 < N
                  · have d5 : decide ((3 : Int) < (N : Int)) = true := by rw [decide_eq_true_iff]; omega
                    have d6 : decide (3 < N) = true := by rw [decide_eq_true_iff]; exact h3
                    have HER : Hid (errE ls rd = 12) := by show _ = _; rw [HES.out, if_pos h3]
                    have hbad := bad_lab (ls := ls) (rd := rd) (by rw [HER.out]; decide)
                    have HLB := Lib.hid hbad.1
                    have HPL := Lib.hid hbad.2
                    clear hbad h3
                    go_wp2_with (refine wpList_store_lab (w0 := w) (l := ld0.1) (d := .slice none 0 0) _ _ rfl (by rfl) rfl rfl HBW.out rfl rfl HXW.out (Nat.le_refl _) ?_; intro w9 hx9 hb9 hs9)
                    have hld := lab_result hb9
                    refine bodyPost_ret (results_cell_tmp2 rfl _ _ rfl hld) rfl ⟨.slice none 0 0, .slice none 0 0, by rw [HER.out, HLB.out]; rfl, by rw [HLB.out]; exact OwnG.nil, by rw [HPL.out]; exact OwnG.nil, hx9⟩
                  · have d5 : decide ((3 : Int) < (N : Int)) = false := by rw [decide_eq_false_iff_not]; omega
                    have d6 : decide (3 < N) = false := by rw [decide_eq_false_iff_not]; exact h3
                    have HER : Hid (errE ls rd = 0) := by show _ = _; rw [HES.out, if_neg h3]
                    have hgood := good_lab HER.out HBE.out
                    have HLB := Lib.hid hgood.1
                    have HPL := Lib.hid hgood.2
                    have hbe := HB4.out.ext HXq.out
                    have HBEL := Lib.hid hbe
                    have m15 := hbe.cell 15 (v := .slice ad j cd) rfl
                    have hl15 := hbe.lt
                    have HDW := Lib.hid (HD.out.ext (HX4.out.trans HXq.out))
                    clear hgood h3 hbe
                    go_wp2_with fail
                    go_at_call 39
                    refine (cloneB_any _ (ldN ls m).2 wr (hdl m) HDW.out).mono ?_
                    rintro e w8 ⟨v8, rfl, ho8, hx8⟩
                    obtain ⟨a8, c8, rfl⟩ := ho8.shape
                    have hbe8 := HBEL.out.ext hx8
                    have hc158 := hbe8.cell 15 (v := .slice ad j cd) rfl
                    have hf158 := hbe8.free 15
                    have hl158 := hbe8.lt
                    have HXW8 : Hid (Ext w w8) := HXW.out.trans hx8
                    have hle3 : w.heap.size < w3.heap.size := Nat.lt_of_lt_of_le HB3.out.lt (Nat.le_refl _)
                    have HBS : Hid (BoxAt (w8.setCell ⟨w3.heap.size, 15, none⟩ (.slice a8 (ldN ls m).2.length c8)) w3.heap.size (labA (ldN ls m).1 (.slice a8 (ldN ls m).2.length c8)) 29) := hbe8.set 15 (.slice a8 (ldN ls m).2.length c8)
                    have HBR : Hid (BoxAt (w8.setCell ⟨w3.heap.size, 15, none⟩ (.slice a8 (ldN ls m).2.length c8)) w.heap.size zeroA 29) := (HBW.out.ext hx8).set_off (Nat.ne_of_lt hle3) 15 _
                    have HXS : Hid (Ext w (w8.setCell ⟨w3.heap.size, 15, none⟩ (.slice a8 (ldN ls m).2.length c8))) := Ext.setOwn HXW8.out (Nat.le_of_lt hle3)
                    have hsz34 : w3.heap.size < w4.heap.size := hg10
                    have hsz4 : w4.heap.size ≤ wr.heap.size := HXq.out.size
                    have HOS : Hid (OwnG encI 3 (w8.setCell ⟨w3.heap.size, 15, none⟩ (.slice a8 (ldN ls m).2.length c8)) w4.heap.size (.slice (some ⟨w4.heap.size, 0, none⟩) j j) (atE ls rd m)) := (HO.out.ext hx8).off (fun e => by simp [Value.ownBlock] at e; omega) 15 _
                    have HDS : Hid (OwnG Value.bool 4 (w8.setCell ⟨w3.heap.size, 15, none⟩ (.slice a8 (ldN ls m).2.length c8)) wr.heap.size (.slice a8 (ldN ls m).2.length c8) (ldN ls m).2) := ho8.off (fun e => by have := (OwnG.lt ho8 _ e).1; omega) 15 _
                    clear ho8 hx8 hbe8 m15 hl15
                    go_wp2_with (first | (refine wpList_loadR 29 _ rfl (by rfl) rfl (LabAt.of_box HBS.out).load ?_) | (refine wpList_store_lab2 (w0 := w) (l := (ldN ls m).1) (d := .slice a8 (ldN ls m).2.length c8) _ _ rfl (by rfl) rfl rfl HBR.out rfl rfl HXS.out (Nat.le_refl _) ?_; intro w9 hx9 hb9 ho9))
                    have hld := lab_result hb9
                    refine bodyPost_ret (results_cell_tmp2 rfl _ _ rfl hld) rfl ⟨.slice a8 (ldN ls m).2.length c8, .slice (some ⟨w4.heap.size, 0, none⟩) j j, by rw [HER.out, HLB.out]; rfl, by rw [HLB.out]; exact (HDS.out.other ho9 (by omega)).lower (Nat.zero_le _), by rw [HPL.out]; exact (HOS.out.other ho9 (by omega)).lower (Nat.zero_le _), hx9⟩
  · have d1 : ((ls.length : Int) == (rd.length : Int)) = false := by rw [beq_eq_false_iff_ne]; omega
    have d2 : ((ls.length : Int) != (rd.length : Int)) = true := by rw [bne, d1]; rfl
    have HER : Hid (errE ls rd = 1) := by show _ = _; unfold errE; rw [if_pos hlen]
    have hbad := bad_lab (ls := ls) (rd := rd) (by rw [HER.out]; decide)
    have HLB := Lib.hid hbad.1
    have HPL := Lib.hid hbad.2
    clear hbad
    clear hlen
    go_enter Tryz.func9, Tryz.ntmps9
    go_wp2_with (refine wpList_store_lab (w0 := w) (l := ld0.1) (d := .slice none 0 0) _ _ rfl (by rfl) rfl rfl HB1.out rfl rfl HE1.out (Nat.le_refl _) ?_; intro w2 hx2 hb2 hs2)
    have hld := lab_result hb2
    refine bodyPost_ret (results_cell_tmp2 rfl _ _ rfl hld) rfl ⟨.slice none 0 0, .slice none 0 0, by rw [HER.out, HLB.out]; rfl, by rw [HLB.out]; exact OwnG.nil, by rw [HPL.out]; exact OwnG.nil, hx2⟩
end Go.Proofs.YtjabgpejmnpamaaGreatDoor

namespace Go.Proofs.YtjabgpejmnpamaaGreatDoor
open Go.ChangeShapes Go.WideShapes Go.ChangeAt Go.RowKit
theorem atE_len (ls : List LD) (rd : List Bool) (m : Nat) : (atE ls rd m).length = disksN ls m := by unfold atE; rw [List.length_map, List.length_range]
end Go.Proofs.YtjabgpejmnpamaaGreatDoor

namespace Go.Proofs.YtjabgpejmnpamaaGreatDoor
open Go.RowKit
theorem best_gen {ls : List LD} {rd : List Bool} {m j : Nat} (hn : ls.length < 1000) (h : bestE ls rd = some m) (hj : j < ls.length) (hc : candN ls rd j = true) : genN ls j ≤ genN ls m := by
  have hb := (El.bestTo_some h).top j hj hc
  rcases Nat.lt_or_ge (genN ls m) (genN ls j) with e | e
  · have := El.key_gen (labels_ok ls rd hn) e
    have h2 : keyE ls rd j ≤ keyE ls rd m := hb
    unfold keyE at h2
    omega
  · exact e
theorem best_some {ls : List LD} {rd : List Bool} {j : Nat} (hj : j < ls.length) (hc : candN ls rd j = true) : ∃ m, bestE ls rd = some m := by
  cases h : bestE ls rd with
  | some m => exact ⟨m, rfl⟩
  | none => have := El.bestTo_none h j hj; rw [hc] at this; cases this
def oneL (l : Lab) (d : Nat) : Lab := { l with disk := d }
theorem one_eq {l : Lab} {x : List Bool} {d e : Nat} : eqL (oneL l d) (oneL l e) x x = true := eqL_iff.2 ⟨rfl, rfl⟩
theorem one_eq0 {l : Lab} {x : List Bool} {d : Nat} : eqL (oneL l d) l x x = true := eqL_iff.2 ⟨rfl, rfl⟩
end Go.Proofs.YtjabgpejmnpamaaGreatDoor

namespace Go.Proofs.YtjabgpejmnpamaaGreatDoor
open Go.RowKit
def validW (l : Lab) (x : List Bool) : Prop := cfgB l.c = true ∧ 1 ≤ l.gen.toNat ∧ l.gen.toNat ≤ 4294967295 ∧ l.prev.toNat < l.gen.toNat ∧ (x.length : Int) = l.c.d ∧ deadN x x.length ≤ 3 ∧ 0 ≤ l.blob ∧ l.blob ≤ 1048576
theorem validW_of {l : Lab} {x : List Bool} (h : validL l x = true) : validW l x := by
  have hf := valid_facts h
  unfold validL at h
  simp only [Bool.and_eq_true, decide_eq_true_eq] at h
  exact ⟨h.1.1, hf.2.2.2.2.1, hf.2.2.2.2.2.2.2.2.2, hf.2.2.2.2.2.1, hf.2.2.2.2.2.2.1, hf.2.2.2.2.2.2.2.2.1, h.2.2.2.2⟩
theorem valid_oneW {l : Lab} {x : List Bool} {d : Nat} (h : validW l x) (hd : d < x.length) : validL (oneL l d) x = !(x.getD d false) := by
  obtain ⟨h1, h2, h3, h4, h5, h6, h7⟩ := h
  have hg : x.getD d true = x.getD d false := by rw [getD_in hd, getD_in hd]
  have e1 : un l.gen = (l.gen.toNat : Int) := rfl
  have e2 : un l.prev = (l.prev.toNat : Int) := rfl
  unfold validL labHead
  show (cfgB l.c && decide _ && decide _) = _
  rw [h1, Bool.true_and]
  have e3 : (0 ≤ (oneL l d).disk ∧ (oneL l d).disk < (oneL l d).c.d ∧ 1 ≤ un (oneL l d).gen ∧ un (oneL l d).gen ≤ 4294967295 ∧ un (oneL l d).prev < un (oneL l d).gen) := by
    show 0 ≤ (d : Int) ∧ (d : Int) < l.c.d ∧ 1 ≤ un l.gen ∧ un l.gen ≤ 4294967295 ∧ un l.prev < un l.gen
    rw [e1, e2]
    omega
  rw [decide_eq_true e3, Bool.true_and]
  have e4 : x.getD (oneL l d).disk.toNat true = x.getD d false := hg
  cases hx : x.getD d false with
  | false =>
    rw [decide_eq_true]
    · rfl
    · exact ⟨h5, h6, by rw [e4, hx], h7⟩
  | true =>
    rw [decide_eq_false]
    · rfl
    · intro h2; rw [e4, hx] at h2; cases h2.2.2.1
end Go.Proofs.YtjabgpejmnpamaaGreatDoor

namespace Go.Proofs.YtjabgpejmnpamaaGreatDoor
open Go.RowKit
def f5 : List Bool := [false, false, false, false, false]
def nextI (l : Lab) : Lab := { l with gen := l.gen + 1#64, prev := l.gen, root := l.root + 1#64 }
theorem nextI_gen {l : Lab} (h : l.gen.toNat + 1 < 4294967296) : (nextI l).gen.toNat = l.gen.toNat + 1 := by
  show (l.gen + 1#64).toNat = _
  rw [BitVec.toNat_add]
  show (l.gen.toNat + 1) % 18446744073709551616 = _
  rw [Nat.mod_eq_of_lt (by omega)]
theorem validW_f5 {l : Lab} {x : List Bool} (h : validL l x = true) (h5 : x.length = 5) : validW l f5 := by
  obtain ⟨h1, h2, h3, h4, h5', h6, h7⟩ := validW_of h
  exact ⟨h1, h2, h3, h4, by rw [← h5', h5]; rfl, by decide, h7⟩
theorem nextI_valid {l : Lab} (h : validW l f5) (hg : l.gen.toNat + 1 < 4294967296) : validW (nextI l) f5 := by
  obtain ⟨h1, h2, h3, h4, h5, h6, h7⟩ := h
  exact ⟨h1, by rw [nextI_gen hg]; omega, by rw [nextI_gen hg]; omega, by rw [nextI_gen hg]; show l.gen.toNat < _; omega, h5, h6, h7⟩
def impL (l : Lab) (dn : Nat → Bool) (d : Nat) : LD := if dn d then (oneL (nextI l) d, f5) else (oneL l d, f5)
def t5 : List Bool := [true, true, true, true, true]
theorem f5_get {d : Nat} (h : d < 5) : f5.getD d false = false := by
  match d, h with
  | 0, _ => rfl | 1, _ => rfl | 2, _ => rfl | 3, _ => rfl | 4, _ => rfl
theorem t5_get {d : Nat} (h : d < 5) : t5.getD d false = true := by
  match d, h with
  | 0, _ => rfl | 1, _ => rfl | 2, _ => rfl | 3, _ => rfl | 4, _ => rfl
theorem imp_law {l : Lab} {dn : Nat → Bool} {L : List LD} (s : Nat → Nat) (hL : L.length = 5) (hld : ∀ i, i < 5 → ldN L i = impL l dn (s i)) (hs : ∀ i, i < 5 → s i < 5) (ht : ∀ d, d < 5 → ∃ i, i < 5 ∧ s i = d)
    (hw : validW l f5) (hg : l.gen.toNat + 1 < 4294967296) :
    errE L t5 = 0 ∧ cntN (placesE L t5) = 0 ∧ eqL (labE L t5).1 (if (List.range 5).any dn then nextI l else l) (labE L t5).2 f5 = true := by
  have hw2 := nextI_valid hw hg
  have hgn := nextI_gen hg
  have hrl : L.length = t5.length := hL
  have hdisk : ∀ i, i < 5 → diskN L i = s i := fun i hi => by
    unfold diskN; rw [hld i hi]; unfold impL; split <;> rfl
  have hcd : ∀ i, i < 5 → candN L t5 i = true := fun i hi => by
    unfold candN
    rw [t5_get hi, hld i hi]
    unfold impL
    split
    · rw [valid_oneW hw2 (by show s i < 5; exact hs i hi), f5_get (hs i hi)]; rfl
    · rw [valid_oneW hw (by show s i < 5; exact hs i hi), f5_get (hs i hi)]; rfl
  have hgen : ∀ i, i < 5 → genN L i = if dn (s i) then l.gen.toNat + 1 else l.gen.toNat := fun i hi => by
    unfold genN
    rw [hld i hi]
    unfold impL
    split
    · exact hgn
    · rfl
  obtain ⟨m, hb⟩ := best_some (ls := L) (rd := t5) (j := 0) (by omega) (hcd 0 (by decide))
  obtain ⟨hm1, hm2⟩ := best_facts hb
  rw [hL] at hm1
  have hmax : ∀ i, i < 5 → genN L i ≤ genN L m := fun i hi => best_gen (by omega) hb (by omega) (hcd i hi)
  have hany : dn (s m) = (List.range 5).any dn := by
    cases ha : (List.range 5).any dn with
    | true =>
      rw [List.any_eq_true] at ha
      obtain ⟨d, hd, h⟩ := ha
      rw [List.mem_range] at hd
      obtain ⟨i, hi, rfl⟩ := ht d hd
      have := hmax i hi
      rw [hgen i hi, hgen m hm1, if_pos h] at this
      cases hdm : dn (s m) with
      | true => rfl
      | false => rw [hdm, if_neg (by simp)] at this; omega
    | false =>
      rw [List.any_eq_false] at ha
      have := ha (s m) (List.mem_range.2 (hs m hm1))
      simpa using this
  have hD : disksN L m = 5 := by
    have h5 : (5 : Int) = l.c.d := hw.2.2.2.2.1
    unfold disksN
    rw [hld m hm1]
    unfold impL
    split <;> (show l.c.d.toNat = 5; omega)
  have hserve : ∀ i, i < 5 → curN L m i = true ∨ oldN L m i = true := fun i hi => by
    have hmaxi := hmax i hi
    have hli := hld i hi
    have hlm := hld m hm1
    rw [hgen i hi, hgen m hm1] at hmaxi
    unfold impL at hli hlm
    cases hdm : dn (s m) with
    | true =>
      rw [hdm, if_pos rfl] at hlm
      cases hdi : dn (s i) with
      | true =>
        rw [hdi, if_pos rfl] at hli
        left
        unfold curN deadL eqN
        rw [hdisk i hi, hlm, hli]
        simp only
        rw [f5_get (hs i hi), one_eq]; rfl
      | false =>
        rw [hdi, if_neg (by simp)] at hli
        right
        unfold oldN deadL kinN genN
        rw [hdisk i hi, hlm, hli]
        simp only
        rw [f5_get (hs i hi)]
        have e1 : (un (oneL l (s i)).array == un (oneL (nextI l) (s m)).array) = true := by rw [beq_iff_eq]; rfl
        have e2 : eqCfg (oneL l (s i)).c (oneL (nextI l) (s m)).c = true := eqCfg_iff.2 rfl
        have e3 : ((oneL l (s i)).gen.toNat == (oneL (nextI l) (s m)).prev.toNat) = true := by rw [beq_iff_eq]; rfl
        rw [e1, e2, e3]; rfl
    | false =>
      rw [hdm, if_neg (by simp)] at hlm
      cases hdi : dn (s i) with
      | true => rw [hdm, hdi, if_pos rfl, if_neg (by simp)] at hmaxi; omega
      | false =>
        rw [hdi, if_neg (by simp)] at hli
        left
        unfold curN deadL eqN
        rw [hdisk i hi, hlm, hli]
        simp only
        rw [f5_get (hs i hi), one_eq]; rfl
  have hcnt : cntN (atE L t5 m) = 0 := by
    unfold cntN
    rw [List.length_eq_zero_iff, List.filter_eq_nil_iff]
    intro z hz
    unfold atE at hz
    rw [List.mem_map] at hz
    obtain ⟨d, hd, rfl⟩ := hz
    rw [hD, List.mem_range] at hd
    rw [hL]
    obtain ⟨i, hi, hsi⟩ := ht d hd
    have hdi : diskN L i = d := (hdisk i hi).trans hsi
    unfold El.place
    cases hf : El.firstN (fun i => candN L t5 i && (diskN L i == d && curN L m i)) 5 with
    | some j => simp
    | none =>
      cases ho : El.firstN (fun i => candN L t5 i && (diskN L i == d && oldN L m i)) 5 with
      | some j => simp
      | none =>
        have hn1 := El.firstN_none hf i hi
        have hn2 := El.firstN_none ho i hi
        rcases hserve i hi with e | e
        · simp [hcd i hi, hdi, e] at hn1
        · simp [hcd i hi, hdi, e] at hn2
  have he := errE_some hrl hb
  rw [if_neg (by omega)] at he
  obtain ⟨g1, g2⟩ := good_lab he hb
  rw [g1, g2, hld m hm1, ← hany]
  refine ⟨he, hcnt, ?_⟩
  unfold impL
  cases hdm : dn (s m) with
  | true => simp only [if_true]; exact one_eq0
  | false => simp only [Bool.false_eq_true, if_false]; exact one_eq0
end Go.Proofs.YtjabgpejmnpamaaGreatDoor

namespace Go.Proofs.YtjabgpejmnpamaaGreatDoor
open Go.ChangeShapes Go.WideShapes Go.ChangeAt Go.RowKit
def ParseEndO (w0 : World) (r : Lb.LX × Bool) (e : Ending) (w' : World) : Prop := ∃ dv, e = .returned (.tuple #[labV r.1.1 dv, .bool r.2]) ∧ OwnG Value.bool 4 w' 0 dv r.1.2 ∧ Ext w0 w'
theorem OwnG.turnW {w w' : World} {v : Value} {x : List Bool} {g : Nat} {cs : Array Value} (h : OwnG Value.bool 4 w 0 v x) (hb : BoxAt w g cs 29) (hg : w.grownBy w' (some g)) : OwnG Value.bool 4 w' 0 v x := h.kept hg (.inl (h.not_box hb (by decide)))
set_option maxRecDepth 100000 in
set_option maxHeartbeats 4000000 in
theorem parse_any (v : Value) (p : List (BitVec 8)) (w : World) (hl : p.length ≤ 12000) (h : SliceAt encB w v p) :
    Calls Tryz.prog 77 #[v] w (ParseEndO w (Lb.parseT p)) := by
  obtain ⟨i0, hI, hI0, hI1, hI2⟩ := info_parts infoBo
  obtain ⟨A, s1, h1⟩ : ∃ A s1, Lb.stU (false, p) = (A, s1) := ⟨_, _, rfl⟩
  obtain ⟨D, s2, h2⟩ : ∃ D s2, Lb.stC 60 s1 = (D, s2) := ⟨_, _, rfl⟩
  obtain ⟨G, s3, h3⟩ : ∃ G s3, Lb.stU s2 = (G, s3) := ⟨_, _, rfl⟩
  obtain ⟨P, s4, h4⟩ : ∃ P s4, Lb.stU s3 = (P, s4) := ⟨_, _, rfl⟩
  obtain ⟨ns, s5, h5⟩ : ∃ ns s5, Lb.stN (Lb.stC 2147483647) 11 s4 = (ns, s5) := ⟨_, _, rfl⟩
  obtain ⟨B, s6, h6⟩ : ∃ B s6, Lb.stB s5 = (B, s6) := ⟨_, _, rfl⟩
  obtain ⟨z, s7, h7⟩ : ∃ z s7, Lb.stC 1048576 s6 = (z, s7) := ⟨_, _, rfl⟩
  obtain ⟨su, s8, h8⟩ : ∃ su s8, Lb.stU s7 = (su, s8) := ⟨_, _, rfl⟩
  obtain ⟨r, s9, h9⟩ : ∃ r s9, Lb.stU s8 = (r, s9) := ⟨_, _, rfl⟩
  have hl1 : s1.2.length ≤ 12000 := Nat.le_trans (stU_len' h1) hl
  have hl2 : s2.2.length ≤ 12000 := Nat.le_trans (stC_len' h2) hl1
  have hl3 : s3.2.length ≤ 12000 := Nat.le_trans (stU_len' h3) hl2
  have hl4 : s4.2.length ≤ 12000 := Nat.le_trans (stU_len' h4) hl3
  have hl5 : s5.2.length ≤ 12000 := Nat.le_trans (stN_facts (stC_len 2147483647) h5).2 hl4
  have hl6 : s6.2.length ≤ 12000 := Nat.le_trans (stB_len' h6).1 hl5
  have hlB : B.length ≤ 12000 := Nat.le_trans (stB_len' h6).2 hl5
  have hl7 : s7.2.length ≤ 12000 := Nat.le_trans (stC_len' h7) hl6
  have hl8 : s8.2.length ≤ 12000 := Nat.le_trans (stU_len' h8) hl7
  have hl9 : s9.2.length ≤ 12000 := Nat.le_trans (stU_len' h9) hl8
  have HPT := Lib.hid (parseT_of h1 h2 h3 h4 h5 h6 h7 h8 h9)
  have H1 := Lib.hid h1
  have H2 := Lib.hid h2
  have H3 := Lib.hid h3
  have H4 := Lib.hid h4
  have H5 := Lib.hid h5
  have H6 := Lib.hid h6
  have H7 := Lib.hid h7
  have H8 := Lib.hid h8
  have H9 := Lib.hid h9
  have HA := Lib.hid h
  have HL := Lib.hid hl
  clear h1 h2 h3 h4 h5 h6 h7 h8 h9 h
  go_enter Tryz.func77, Tryz.ntmps77
  go_wp2_with fail
  go_at_call 123
  refine (snew_any _ p _ (by omega) (HA.out.ext (Ext.alloc _ _))).mono ?_
  rintro e w2 ⟨rb, rfl, hr⟩
  have hbr : BoxAt (w.alloc (.cells (labA ⟨0#64, 0, 0#64, 0#64, Lb.cfgOf [], 0, 0#64, 0#64⟩ (.slice none 0 0)) 29)) w.heap.size (labA ⟨0#64, 0, 0#64, 0#64, Lb.cfgOf [], 0, 0#64, 0#64⟩ (.slice none 0 0)) 29 := BoxAt.new _ _ _
  have hr2 : Rds (w.alloc (.cells (labA ⟨0#64, 0, 0#64, 0#64, Lb.cfgOf [], 0, 0#64, 0#64⟩ (.slice none 0 0)) 29)) w2 rb (false, p) := hr
  have hxW : Ext w (w.alloc (.cells (labA ⟨0#64, 0, 0#64, 0#64, Lb.cfgOf [], 0, 0#64, 0#64⟩ (.slice none 0 0)) 29)) := Ext.alloc _ _
  generalize w.alloc (.cells (labA ⟨0#64, 0, 0#64, 0#64, Lb.cfgOf [], 0, 0#64, 0#64⟩ (.slice none 0 0)) 29) = W at *
  have HBR := Lib.hid hbr
  have HXW := Lib.hid hxW
  have HRW : Hid (w.heap.size < W.heap.size) := hbr.lt
  have HP0 : Hid (PS W (w2.alloc (.cells (labA ⟨0#64, 0, 0#64, 0#64, Lb.cfgOf [], 0, 0#64, 0#64⟩ (.slice none 0 0)) 29)) rb w2.heap.size (false, p) ⟨0#64, 0, 0#64, 0#64, Lb.cfgOf [], 0, 0#64, 0#64⟩ (.slice none 0 0)) :=
    ⟨hr2.more (Ext.alloc _ _), BoxAt.new _ _ _, hr2.ext.size, fun e => by have := hr2.rd.lt; omega, fun c h => by cases h⟩
  clear hr hr2 hbr hxW
  go_wp2_with fail
  go_at_call 124
  refine (puint' H1.out (by have := HL.out; show p.length ≤ _; omega) HP0.out).mono ?_
  rintro e w3 ⟨er1, rfl, hp, _⟩
  generalize w2.heap.size = g at *
  have hb := hp.box
  have cc := hb.cell 0 (v := encU 0#64) rfl
  have cf := hb.free 0
  have cl := hb.lt
  have HP1 : Hid (PS W (w3.setCell ⟨g, 0, none⟩ (encU A)) rb g s1 ⟨A, 0, 0#64, 0#64, Lb.cfgOf [], 0, 0#64, 0#64⟩ (.slice none 0 0)) := hp.store 0 _ rfl hp.dn
  clear hp hb HP0
  go_upto_region 4 with fail
  generalize w3.setCell ⟨g, 0, none⟩ (encU A) = y1 at *
  clear cc cf cl
  go_wp2_with fail
  go_at_call 125
  refine (pcount' 60 (by decide) H2.out (by omega) HP1.out).mono ?_
  rintro e w4 ⟨er2, rfl, hp, _⟩
  have hb := hp.box
  have cc := hb.cell 1 (v := .int .i64 0) rfl
  have cf := hb.free 1
  have cl := hb.lt
  have HP2 : Hid (PS W (w4.setCell ⟨g, 1, none⟩ (.int .i64 D)) rb g s2 ⟨A, D, 0#64, 0#64, Lb.cfgOf [], 0, 0#64, 0#64⟩ (.slice none 0 0)) := hp.store 1 _ rfl hp.dn
  clear hp hb HP1
  go_upto_region 5 with fail
  generalize w4.setCell ⟨g, 1, none⟩ (.int .i64 D) = y2 at *
  clear cc cf cl
  go_wp2_with fail
  go_at_call 124
  refine (puint' H3.out (by omega) HP2.out).mono ?_
  rintro e w5 ⟨er3, rfl, hp, _⟩
  have hb := hp.box
  have cc := hb.cell 2 (v := encU 0#64) rfl
  have cf := hb.free 2
  have cl := hb.lt
  have HP3 : Hid (PS W (w5.setCell ⟨g, 2, none⟩ (encU G)) rb g s3 ⟨A, D, G, 0#64, Lb.cfgOf [], 0, 0#64, 0#64⟩ (.slice none 0 0)) := hp.store 2 _ rfl hp.dn
  clear hp hb HP2
  go_upto_region 6 with fail
  generalize w5.setCell ⟨g, 2, none⟩ (encU G) = y3 at *
  clear cc cf cl
  go_wp2_with fail
  go_at_call 124
  refine (puint' H4.out (by omega) HP3.out).mono ?_
  rintro e w6 ⟨er4, rfl, hp, _⟩
  have hb := hp.box
  have cc := hb.cell 3 (v := encU 0#64) rfl
  have cf := hb.free 3
  have cl := hb.lt
  have HP4 : Hid (PS W (w6.setCell ⟨g, 3, none⟩ (encU P)) rb g s4 ⟨A, D, G, P, Lb.cfgOf [], 0, 0#64, 0#64⟩ (.slice none 0 0)) := hp.store 3 _ rfl hp.dn
  clear hp hb HP3
  go_upto_region 7 with fail
  generalize w6.setCell ⟨g, 3, none⟩ (encU P) = y4 at *
  clear cc cf cl
  have hgl := HP4.out.box.lt
  have hrl := HP4.out.rds.rd.lt
  go_wp2_with fail
  go_at_call 73
  refine (fields2_any g _ hgl).mono ?_
  rintro e w7 ⟨ft, rfl, hf, hx7⟩
  have HP5 : Hid (PS W w7 rb g s4 ⟨A, D, G, P, Lb.cfgOf [], 0, 0#64, 0#64⟩ (.slice none 0 0)) := HP4.out.more hx7
  have HFB : Hid (BoxAt w7 y4.heap.size ((List.range 11).map (encF g)).toArray ft) := hf
  have HNE : Hid (y4.heap.size ≠ rb ∧ y4.heap.size ≠ g) := ⟨by omega, by omega⟩
  clear hf hx7 HP4
  generalize y4.heap.size = fb at *
  clear hgl hrl
  go_wp2_with fail
  go_loopw [40] (fun it wr => ∃ (i : Nat) (ms : List Int) (t : Lb.St), i ≤ 11 ∧ it = .int .i64 i ∧ Hid (Lb.stN (Lb.stC 2147483647) i s4 = (ms, t)) ∧ Hid (PS W wr rb g t ⟨A, D, G, P, Lb.cfgOf ms, 0, 0#64, 0#64⟩ (.slice none 0 0)) ∧ Hid (BoxAt wr fb ((List.range 11).map (encF g)).toArray ft)) (fun it _ => 11 - (intOf it).toNat)
  case atStart => exact ⟨0, [], s4, by omega, rfl, Lib.hid rfl, HP5, HFB⟩
  case round =>
    obtain ⟨i, ms, t, hi, rfl, HST, HP, HF⟩ := hrel
    by_cases hlt : i < 11
    · have hiI : (i : Int) < 11 := by omega
      have hi0 : (0 : Int) ≤ (i : Int) := by omega
      have cp := ptr_cell HF.out i hlt
      have cpl := HF.out.lt
      obtain ⟨hml, htl⟩ := stN_facts (stC_len 2147483647) HST.out
      have HML := Lib.hid hml
      clear hml
      obtain ⟨m, t2, hm⟩ : ∃ m t2, Lb.stC 2147483647 t = (m, t2) := ⟨_, _, rfl⟩
      have HM := Lib.hid hm
      clear hm
      go_wp2_with fail
      go_at_call 125
      refine (pcount' 2147483647 (by decide) HM.out (by omega) HP.out).mono ?_
      rintro e wa ⟨er, rfl, hp, hgw⟩
      have hb := hp.box
      have cc := hb.cell (4 + i) (v := .int .i64 ((cfgL (Lb.cfgOf ms)).getD i 0)) (lab_field ⟨A, D, G, P, Lb.cfgOf ms, 0, 0#64, 0#64⟩ (.slice none 0 0) i hlt)
      have cf := hb.free (4 + i)
      have cl := hb.lt
      have HP2 : Hid (PS W (wa.setCell ⟨g, 4 + i, none⟩ (.int .i64 m)) rb g t2 ⟨A, D, G, P, Lb.cfgOf (ms ++ [m]), 0, 0#64, 0#64⟩ (.slice none 0 0)) := hp.store (4 + i) _ (cfg_snoc ms m i HML.out hlt _ _ _ _ _ _ _ _) hp.dn
      have HF2 : Hid (BoxAt (wa.setCell ⟨g, 4 + i, none⟩ (.int .i64 m)) fb ((List.range 11).map (encF g)).toArray ft) := (HF.out.grown hgw (fun e => HNE.out.1 (Option.some.inj e))).set_off HNE.out.2 _ _
      clear hp hb HP HF hgw cp cpl
      go_wp2_with fail
      go_roundw
      case rel => exact ⟨i + 1, ms ++ [m], t2, by omega, by go_num, Lib.hid (stN_next HST.out HM.out), HP2, HF2⟩
      case measure => simp [intOf]; omega
    · have hin : i = 11 := by omega
      subst hin
      have hsm := HST.out.symm.trans H5.out
      obtain ⟨rfl, rfl⟩ : ms = ns ∧ t = s5 := ⟨congrArg Prod.fst hsm, congrArg Prod.snd hsm⟩
      clear hsm HF HFB HST
      go_wp2_with fail
      go_at_call 126
      refine (pbytes' H6.out (by omega) HP.out).mono ?_
      rintro e w8 ⟨bv, hbv, er6, rfl, hp, _⟩
      have HP6 := Lib.hid hp
      have hbx := hp.box
      have HB8 := Lib.hid hbv
      obtain ⟨ab, cb, rfl⟩ := hbv.shape
      obtain ⟨bl, hbl⟩ : ∃ bl, B.length = bl := ⟨_, rfl⟩
      have HBL := Lib.hid hbl
      rw [hbl] at HB8 hlB ⊢
      obtain ⟨Dd, hDd⟩ : ∃ Dd, (Lb.cfgOf ms).d = Dd := ⟨_, rfl⟩
      have HDD := Lib.hid hDd
      obtain ⟨M, hM⟩ : ∃ M, min Dd.toNat (8 * bl) = M := ⟨_, rfl⟩
      have HMM : Hid (Lb.deadP (Lb.cfgOf ms).d B = deadTo B M) := by show _ = _; rw [deadP_to, hbl, hDd, hM]
      have hM1 : M ≤ 8 * bl := by omega
      have HM2 : Hid (∀ i : Nat, i < M → (i : Int) < Dd ∧ i / 8 < bl) := fun i h => by omega
      have HM3 : Hid (∀ i : Nat, (i : Int) < Dd → i / 8 < bl → i < M) := fun i h h' => by omega
      have hgl := hbx.lt
      have HRL : Hid (rb < w8.heap.size) := hp.rds.rd.lt
      have HB0 : Hid (BoxAt w8 g (labA ⟨A, D, G, P, Lb.cfgOf ms, 0, 0#64, 0#64⟩ (.slice none 0 0)) 29) := hbx
      clear hp hbx hbv hbl hDd hM HP
      go_wp2_with fail
      go_loopw [10] (fun it wr => ∃ (i : Nat) (dv : Value), i ≤ M ∧ it = .int .i64 i ∧ Hid (OwnG Value.bool 4 wr w8.heap.size dv (deadTo B i)) ∧ Hid (BoxAt wr g (labA ⟨A, D, G, P, Lb.cfgOf ms, 0, 0#64, 0#64⟩ dv) 29) ∧ Hid (w8.grownBy wr (some g))) (fun it _ => M - (intOf it).toNat)
      case atStart => exact ⟨0, .slice none 0 0, Nat.zero_le _, rfl, Lib.hid OwnG.nil, HB0, Lib.hid (grown_refl _ _)⟩
      case round =>
        obtain ⟨i, dv, hi, rfl, HO, HB, HG⟩ := hrel
        generalize wr = wo at *
        have hbx := HB.out
        have c4 := hbx.cell 4 (v := .int .i64 (Lb.cfgOf ms).d) rfl
        rw [HDD.out] at c4
        have hlg := hbx.lt
        have hi0 : (0 : Int) ≤ (i : Int) := by omega
        by_cases hlt : i < M
        · obtain ⟨hlD, hlb⟩ := HM2.out i hlt
          have d1 : decide ((i : Int) < Dd) = true := by rw [decide_eq_true_iff]; exact hlD
          have d2 : decide ((i : Int) / 8 < (bl : Int)) = true := by rw [decide_eq_true_iff]; omega
          have d3 : decide ((i : Int).tdiv 8 < (bl : Int)) = true := by rw [Int.tdiv_eq_ediv_of_nonneg hi0]; exact d2
          have hqb : (i : Int) / 8 < (bl : Int) := by omega
          have hq0 : (0 : Int) ≤ (i : Int) / 8 := by omega
          have hq : ((i : Int) / 8).toNat = i / 8 := by omega
          have hr : ((i : Int) % 8).toNat = i % 8 := by omega
          have hBi : i / 8 < B.length := by rw [HBL.out]; exact hlb
          obtain ⟨bb, ob, rfl, hbb8, hcx⟩ := HB8.out.get (i / 8) hBi
          clear hcx
          obtain ⟨bb2, ob2, hbe, hbb, hcb⟩ := (HB8.out.turn (lab_nb HB0.out (fun c h => by cases h)) HG.out).get (i / 8) hBi
          cases hbe
          obtain ⟨da, dc, rfl⟩ := HO.out.shape
          rw [deadTo_len] at HO HB hbx
          have c15 := hbx.cell 15 (v := .slice da i dc) rfl
          rw [← getD_in (d := 0#8) hBi] at hcb
          have HDN := Lib.hid (deadTo_next B i)
          have hbit := bit_shr (B.getD (i / 8) 0#8) (i % 8)
          generalize B.getD (i / 8) 0#8 = x at *
          obtain ⟨u, hu⟩ : ∃ u, x.getLsbD (i % 8) = u := ⟨_, rfl⟩
          rw [hu] at hbit HDN
          have hbo := hbx
          clear hu hBi hlD hlb hbx
          go_wp2_with fail
          refine wp_region_bel (w8.heap.size) (wo) ((Below.refl _ _)) [(0, true), (1, true), (2, true), (3, true), (4, true), (5, true), (6, true), (7, true), (8, true), (9, true), (10, true), (11, true), (12, false), (13, false), (14, true), (15, false)] (by kernel_rfl) (by kernel_rfl) ?_
          iterate 12 ((first
           | refine bel_move rfl rfl (by rfl) (by rfl) ?_
           | (apply bel_take rfl (by rfl)
              · intro w' hS
                have hSc := below_cellsB hS
                go_simp
                (try simp (disch := omega) only [i64_id, Int.tmod_eq_emod_of_nonneg])
                try rfl)
           | refine bel_pass rfl (by rfl) ?_); simp only [Act.put, setZa, setZ0, setZ1])
          (refine bel_do rfl (by rfl) (fun K hK => ?_)
           go_simp
           refine hK _ _ (Below.mono ((Ext.alloc _ _).trans (Ext.drew _)) HG.out.size) ?_
           clear hK K
           (try simp only [Act.put, setZa, setZ0, setZ1]))
          (refine bel_do rfl (by rfl) (fun K hK => ?_)
           refine wp_of_list rfl ?_
           have e1 : Ext wo (wo.alloc (.cells #[.bool u] 4)).drew := (Ext.alloc _ _).trans (Ext.drew _)
           have hown := HO.out.ext e1
           have hwz : w8.heap.size ≤ wo.heap.size := HG.out.size
           refine wpList_append_one rfl (.tmp 72) (.tmp 83) 27 rfl w8.heap.size 4 i0 (.bool false) 1 Tryz.underlying27 hI hI0 hI1 hI2 rfl _ _ _ rfl hown _ (.bool u) rfl rfl (cell_new1 _ _ _) (by rw [deadTo_len]; unfold maxLen; omega) (by rw [deadTo_len]; omega) (Nat.le_trans hwz e1.size) ?_
           intro v9 w9 ho9 hg9 _
           have HO9 : Hid (OwnG Value.bool 4 w9 w8.heap.size v9 (deadTo B (i + 1))) := by
             show OwnG _ _ _ _ _ _
             rw [HDN.out]
             exact OwnG.snoc (enc := Value.bool) (x := u) ho9
           clear ho9
           obtain ⟨a9, c9, rfl⟩ := HO9.out.shape
           simp only [deadTo_len] at HO9 ⊢
           have hnb : ∀ q, (Value.slice da i dc).ownBlock = some q → w8.heap.size ≤ q := fun q hq => (hown.lt q hq).1
           have hb9 := (hbo.ext e1).grown hg9 (fun e => by have := hnb g e.symm; omega)
           have HG9 : Hid (w8.grownBy w9 (some g)) := grown_own (grown_trans HG.out (grown_ext e1 _)) hg9 hnb
           have HB9 := Lib.hid hb9
           have hbel : Below w8.heap.size wo w9 := Below.grown (Below.mono e1 hwz) hg9 (Nat.le_trans hwz e1.size) hnb
           refine hK _ _ hbel ?_
           clear hK K hg9 hown hbel hwz hnb hb9 e1
           (try simp only [Act.put, setZa, setZ0, setZ1]))
          ((first
           | refine bel_move rfl rfl (by rfl) (by rfl) ?_
           | (apply bel_take rfl (by rfl)
              · intro w' hS
                have hSc := below_cellsB hS
                go_simp
                (try simp (disch := omega) only [i64_id, u64_id, ↓IntWalk.iteOmega, Int.tdiv_eq_ediv_of_nonneg, Int.tmod_eq_emod_of_nonneg])
                try rfl)
           | refine bel_pass rfl (by rfl) ?_); simp only [Act.put, setZa, setZ0, setZ1])
          have hb9 := HB9.out
          have cc := hb9.cell 15 (v := .slice da i dc) rfl
          have cf := hb9.free 15
          have cl := hb9.lt
          refine bel_last rfl (by rfl) (by kernel_rfl) (fun K hK => ?_)
          go_simp
          refine hK _ _ ?_
          clear hK K
          (try simp only [Act.put, setZa, setZ0, setZ1])
          have HO10 : Hid (OwnG Value.bool 4 (w9.setCell ⟨g, 15, none⟩ (.slice a9 (i + 1) c9)) w8.heap.size (.slice a9 (i + 1) c9) (deadTo B (i + 1))) := HO9.out.kept (grown_set _ _ _ _) (.inl (fun e => by have := (HO9.out.lt g e).1; omega))
          have HB10 : Hid (BoxAt (w9.setCell ⟨g, 15, none⟩ (.slice a9 (i + 1) c9)) g (labA ⟨A, D, G, P, Lb.cfgOf ms, 0, 0#64, 0#64⟩ (.slice a9 (i + 1) c9)) 29) := hb9.set 15 (.slice a9 (i + 1) c9)
          have HG10 : Hid (w8.grownBy (w9.setCell ⟨g, 15, none⟩ (.slice a9 (i + 1) c9)) (some g)) := grown_trans HG9.out (grown_set _ _ _ _)
          clear hb9 HO9 HB9 HG9
          go_wp2_with fail
          go_roundw
          case rel => exact ⟨i + 1, .slice a9 (i + 1) c9, by omega, by go_num, HO10, HB10, HG10⟩
          case measure => simp [intOf]; omega
        · have hiM : i = M := by omega
          have HDE : Hid (deadTo B i = Lb.deadP (Lb.cfgOf ms).d B) := by show _ = _; rw [HMM.out, hiM]
          obtain ⟨da, dc, rfl⟩ := HO.out.shape
          rw [deadTo_len] at HO HB hbx
          rw [HDE.out] at HO
          have hp6 : PS W wo rb g s6 ⟨A, D, G, P, Lb.cfgOf ms, 0, 0#64, 0#64⟩ (.slice da i dc) := HP6.out.turn HG.out HB.out (fun c h => by cases h)
          have HO6 := Lib.hid HO.out
          have HW8 : Hid (W.heap.size ≤ w8.heap.size) := HP6.out.rds.ext.size
          clear HP6 HO HB HG HB0 HDE HMM HM2
          have HP6 := Lib.hid hp6
          clear hp6
          have HCV : Hid (((i : Int) < Dd) → ¬ (i / 8 < bl)) := fun h h' => hlt (HM3.out i h h')
          clear hlt HM3 hi
          have hib : i ≤ 8 * bl := by omega
          clear hiM hM1
          generalize Lb.deadP (Lb.cfgOf ms).d B = DP at *
          by_cases hlD : (i : Int) < Dd
          · have hnb := HCV.out hlD
            have d1 : decide ((i : Int) < Dd) = true := by rw [decide_eq_true_iff]; exact hlD
            have d2 : decide ((i : Int) / 8 < (bl : Int)) = false := by rw [decide_eq_false_iff_not]; omega
            have d3 : decide ((i : Int).tdiv 8 < (bl : Int)) = false := by rw [Int.tdiv_eq_ediv_of_nonneg hi0]; exact d2
            clear hnb hlD HCV
            go_wp2_with fail
            go_at_call 125
            refine (pcount' 1048576 (by decide) H7.out (by omega) HP6.out).mono ?_
            rintro e w9 ⟨er7, rfl, hp, hgw⟩
            have hb := hp.box
            have cc := hb.cell 16 (v := .int .i64 0) rfl
            have cf := hb.free 16
            have cl := hb.lt
            have HP7 : Hid (PS W (w9.setCell ⟨g, 16, none⟩ (.int .i64 z)) rb g s7 ⟨A, D, G, P, Lb.cfgOf ms, z, 0#64, 0#64⟩ (.slice da i dc)) := hp.store 16 _ rfl hp.dn
            have HO7 : Hid (OwnG Value.bool 4 (w9.setCell ⟨g, 16, none⟩ (.int .i64 z)) w8.heap.size (.slice da i dc) DP) := (HO6.out.kept hgw (.inl (fun e => by have := (HO6.out.lt rb e).1; have := HRL.out; omega))).kept (grown_set _ _ _ _) (.inl (fun e => by have := (HO6.out.lt g e).1; omega))
            clear hp hb hgw HP6 HO6
            go_upto_region 18 with fail
            generalize w9.setCell ⟨g, 16, none⟩ (.int .i64 z) = y7 at *
            clear cc cf cl
            go_wp2_with fail
            go_at_call 124
            refine (puint' H8.out (by omega) HP7.out).mono ?_
            rintro e w10 ⟨er8, rfl, hp, hgw⟩
            have hb := hp.box
            have cc := hb.cell 17 (v := encU 0#64) rfl
            have cf := hb.free 17
            have cl := hb.lt
            have HP8 : Hid (PS W (w10.setCell ⟨g, 17, none⟩ (encU su)) rb g s8 ⟨A, D, G, P, Lb.cfgOf ms, z, su, 0#64⟩ (.slice da i dc)) := hp.store 17 _ rfl hp.dn
            have HO8 : Hid (OwnG Value.bool 4 (w10.setCell ⟨g, 17, none⟩ (encU su)) w8.heap.size (.slice da i dc) DP) := (HO7.out.kept hgw (.inl (fun e => by have := (HO7.out.lt rb e).1; have := HRL.out; omega))).kept (grown_set _ _ _ _) (.inl (fun e => by have := (HO7.out.lt g e).1; omega))
            clear hp hb hgw HP7 HO7
            go_upto_region 19 with fail
            generalize w10.setCell ⟨g, 17, none⟩ (encU su) = y8 at *
            clear cc cf cl
            go_wp2_with fail
            go_at_call 124
            refine (puint' H9.out (by omega) HP8.out).mono ?_
            rintro e w11 ⟨er9, rfl, hp, hgw⟩
            have hb := hp.box
            have cc := hb.cell 18 (v := encU 0#64) rfl
            have cf := hb.free 18
            have cl := hb.lt
            have HP9 : Hid (PS W (w11.setCell ⟨g, 18, none⟩ (encU r)) rb g s9 ⟨A, D, G, P, Lb.cfgOf ms, z, su, r⟩ (.slice da i dc)) := hp.store 18 _ rfl hp.dn
            have HO9 : Hid (OwnG Value.bool 4 (w11.setCell ⟨g, 18, none⟩ (encU r)) w8.heap.size (.slice da i dc) DP) := (HO8.out.kept hgw (.inl (fun e => by have := (HO8.out.lt rb e).1; have := HRL.out; omega))).kept (grown_set _ _ _ _) (.inl (fun e => by have := (HO8.out.lt g e).1; omega))
            clear hp hb hgw HP8 HO8
            go_upto_region 20 with fail
            generalize w11.setCell ⟨g, 18, none⟩ (encU r) = y9 at *
            clear cc cf cl
            have HNR : Hid (g ≠ w.heap.size ∧ rb ≠ w.heap.size) := by
              have h1 := HP9.out.ge
              have h2 := HP9.out.rds.ge
              have h3 := HRW.out
              exact ⟨by omega, by omega⟩
            have HLD : Hid (∀ w', y9.grownBy w' (some w.heap.size) → (Instr.loadAt 29 (.pointer (some ⟨g, 0, none⟩))).run Tryz.prog w' = .ok (labV ⟨A, D, G, P, Lb.cfgOf ms, z, su, r⟩ (.slice da i dc)) w') := fun w' h => (LabAt.of_box (HP9.out.box.grown h (fun e => HNR.out.1 (Option.some.inj e)))).load
            obtain ⟨F, hF⟩ : ∃ F, fin s9.1 s9.2 = F := ⟨_, rfl⟩
            have HDN : Hid (∀ w', rb < w'.heap.size → RdAt w' rb s9.2 s9.1 → Calls Tryz.prog 127 #[.pointer (some ⟨rb, 0, none⟩)] w' fun e w'' => e = .returned (.int .i64 F) ∧ w' = w'') := fun w' _ hh => by
              rw [← hF]
              exact done_any w' rb s9.2 s9.1 (by omega) hh
            rw [hF] at HPT
            clear hF
            have HDL : Hid (DP.length ≤ 100000) := by have h1 := HO9.out.shape; obtain ⟨a1, c1, h2⟩ := h1; injection h2 with _ h3 _; show DP.length ≤ 100000; omega
            by_cases hF0 : F = 0
            · subst hF0
              refine wp_region_fix (fun w' => y9.grownBy w' (some w.heap.size)) [(0, true), (1, true), (2, false), (3, true), (4, true), (5, true), (6, false), (7, true), (8, false), (9, true)] (by kernel_rfl) (by kernel_rfl) ?_ ?_
              · exact grown_drew (grown_refl _ _)
              refine fix_load 29 rfl (by rfl) rfl (by rfl) (fun w' hS => HLD.out w' hS) ?_; simp only [Act.put, setZa, setZ0, setZ1]
              ((first
               | refine fix_move rfl rfl (by rfl) (by rfl) ?_
               | (apply fix_take rfl (by rfl)
                  · intro w' hSc
                    go_simp
                    (try simp (disch := omega) only [i64_id, u64_id, ↓IntWalk.iteOmega, Int.tdiv_eq_ediv_of_nonneg, Int.tmod_eq_emod_of_nonneg])
                    try rfl)
               | refine fix_pass rfl (by rfl) ?_); simp only [Act.put, setZa, setZ0, setZ1])
              (refine fix_do rfl (by rfl) (fun K hK => ?_)
               go_simp
               go_at_call 127
               refine (HDN.out y9.drew HP9.out.rds.rd.lt (HP9.out.rds.rd.ext (Ext.drew _))).mono ?_
               rintro e w' ⟨rfl, rfl⟩
               refine hK _ _ (by first | (with_reducible exact grown_refl _ _) | (with_reducible exact grown_drew (grown_refl _ _))) ?_
               clear hK K
               (try simp only [Act.put, setZa, setZ0, setZ1]))
              iterate 2 ((first
               | refine fix_move rfl rfl (by rfl) (by rfl) ?_
               | (apply fix_take rfl (by rfl)
                  · intro w' hSc
                    go_simp
                    (try simp (disch := omega) only [i64_id, u64_id, ↓IntWalk.iteOmega, Int.tdiv_eq_ediv_of_nonneg, Int.tmod_eq_emod_of_nonneg])
                    try rfl)
               | refine fix_pass rfl (by rfl) ?_); simp only [Act.put, setZa, setZ0, setZ1])
              refine fix_load 29 rfl (by rfl) rfl (by rfl) (fun w' hS => HLD.out w' hS) ?_; simp only [Act.put, setZa, setZ0, setZ1]
              (refine fix_do rfl (by rfl) (fun K hK => ?_)
               go_simp
               go_at_call 30
               refine (valid_any ⟨A, D, G, P, Lb.cfgOf ms, z, su, r⟩ (.slice da i dc) DP _ HDL.out (HO9.out.slice.ext (Ext.drew _))).mono ?_
               rintro e w12 ⟨rfl, hx12⟩
               have HX12 : Hid (Ext y9 w12) := (Ext.drew _).trans hx12
               refine hK _ _ (grown_ext HX12.out _) ?_
               clear hK K hx12
               (try simp only [Act.put, setZa, setZ0, setZ1]))
              ((first
               | refine fix_move rfl rfl (by rfl) (by rfl) ?_
               | (apply fix_take rfl (by rfl)
                  · intro w' hSc
                    go_simp
                    (try simp (disch := omega) only [i64_id, u64_id, ↓IntWalk.iteOmega, Int.tdiv_eq_ediv_of_nonneg, Int.tmod_eq_emod_of_nonneg])
                    try rfl)
               | refine fix_pass rfl (by rfl) ?_); simp only [Act.put, setZa, setZ0, setZ1])
              have hbr := HBR.out.ext (HP9.out.rds.ext.trans HX12.out)
              (refine fix_do rfl (by rfl) (fun K hK => ?_)
               refine wp_of_list rfl ?_
               refine wpList_store_lab3 (l := ⟨A, D, G, P, Lb.cfgOf ms, z, su, r⟩) (d := .slice da i dc) _ _ rfl (by rfl) rfl rfl hbr rfl rfl ?_
               intro w13 hg13 hb13
               have hS13 : y9.grownBy w13 (some w.heap.size) := grown_trans (grown_ext HX12.out _) hg13
               refine hK _ _ hS13 ?_
               clear hK K
               (try simp only [Act.put]))
              ((first
               | refine fix_move rfl rfl (by rfl) (by rfl) ?_
               | (apply fix_take rfl (by rfl)
                  · intro w' hSc
                    go_simp
                    (try simp (disch := omega) only [i64_id, u64_id, ↓IntWalk.iteOmega, Int.tdiv_eq_ediv_of_nonneg, Int.tmod_eq_emod_of_nonneg])
                    try rfl)
               | refine fix_pass rfl (by rfl) ?_); simp only [Act.put, setZa, setZ0, setZ1])
              refine fix_nil ?_
              go_wp2_with fail
              refine bodyPost_ret (results_cell_tmp1 rfl _ _ rfl (lab_result hb13)) rfl ?_
              rw [HPT.out]
              have HXF : Ext w w13 := ((HXW.out.trans HP9.out.rds.ext).trans HX12.out).grown hg13 ((HXW.out.trans HP9.out.rds.ext).trans HX12.out).size (fun q hq => by cases hq; exact Nat.le_refl _)
              refine ⟨.slice da i dc, ?_, ((HO9.out.ext HX12.out).kept hg13 (.inl (fun e => by have h1 := (HO9.out.lt _ e).1; have h2 := HRW.out; have h3 := HW8.out; omega))).lower (Nat.zero_le _), HXF⟩
              simp
            · have q1 : (F == 0) = false := by rw [beq_eq_false_iff_ne]; exact hF0
              refine wp_region_fix (fun w' => y9.grownBy w' (some w.heap.size)) [(0, true), (1, true), (2, false), (3, true), (4, true), (5, true), (6, false), (7, true), (8, false), (9, true)] (by kernel_rfl) (by kernel_rfl) ?_ ?_
              · exact grown_drew (grown_refl _ _)
              refine fix_load 29 rfl (by rfl) rfl (by rfl) (fun w' hS => HLD.out w' hS) ?_; simp only [Act.put, setZa, setZ0, setZ1]
              ((first
               | refine fix_move rfl rfl (by rfl) (by rfl) ?_
               | (apply fix_take rfl (by rfl)
                  · intro w' hSc
                    go_simp
                    (try simp (disch := omega) only [i64_id, u64_id, ↓IntWalk.iteOmega, Int.tdiv_eq_ediv_of_nonneg, Int.tmod_eq_emod_of_nonneg])
                    try rfl)
               | refine fix_pass rfl (by rfl) ?_); simp only [Act.put, setZa, setZ0, setZ1])
              (refine fix_do rfl (by rfl) (fun K hK => ?_)
               go_simp
               go_at_call 127
               refine (HDN.out y9.drew HP9.out.rds.rd.lt (HP9.out.rds.rd.ext (Ext.drew _))).mono ?_
               rintro e w' ⟨rfl, rfl⟩
               refine hK _ _ (by first | (with_reducible exact grown_refl _ _) | (with_reducible exact grown_drew (grown_refl _ _))) ?_
               clear hK K
               (try simp only [Act.put, setZa, setZ0, setZ1]))
              iterate 2 ((first
               | refine fix_move rfl rfl (by rfl) (by rfl) ?_
               | (apply fix_take rfl (by rfl)
                  · intro w' hSc
                    go_simp
                    (try simp (disch := omega) only [i64_id, u64_id, ↓IntWalk.iteOmega, Int.tdiv_eq_ediv_of_nonneg, Int.tmod_eq_emod_of_nonneg])
                    try rfl)
               | refine fix_pass rfl (by rfl) ?_); simp only [Act.put, setZa, setZ0, setZ1])
              ((first
               | refine fix_move rfl rfl (by rfl) (by rfl) ?_
               | (apply fix_take rfl (by rfl)
                  · intro w' hSc
                    go_simp
                    (try simp (disch := omega) only [i64_id, u64_id, ↓IntWalk.iteOmega, Int.tdiv_eq_ediv_of_nonneg, Int.tmod_eq_emod_of_nonneg])
                    try rfl)
               | refine fix_pass rfl (by rfl) ?_); simp only [Act.put, setZa, setZ0, setZ1])
              refine fix_passE rfl (by rfl) (grown_drew (grown_refl _ _)) ?_; simp only [Act.put, setZa, setZ0, setZ1]
              ((first
               | refine fix_move rfl rfl (by rfl) (by rfl) ?_
               | (apply fix_take rfl (by rfl)
                  · intro w' hSc
                    go_simp
                    (try simp (disch := omega) only [i64_id, u64_id, ↓IntWalk.iteOmega, Int.tdiv_eq_ediv_of_nonneg, Int.tmod_eq_emod_of_nonneg])
                    try rfl)
               | refine fix_pass rfl (by rfl) ?_); simp only [Act.put, setZa, setZ0, setZ1])
              have hbr := HBR.out.ext (HP9.out.rds.ext.trans (Ext.drew _))
              (refine fix_do rfl (by rfl) (fun K hK => ?_)
               refine wp_of_list rfl ?_
               refine wpList_store_lab3 (l := ⟨A, D, G, P, Lb.cfgOf ms, z, su, r⟩) (d := .slice da i dc) _ _ rfl (by rfl) rfl rfl hbr rfl rfl ?_
               intro w13 hg13 hb13
               have hS13 : y9.grownBy w13 (some w.heap.size) := grown_trans (grown_ext (Ext.drew _) _) hg13
               refine hK _ _ hS13 ?_
               clear hK K
               (try simp only [Act.put]))
              ((first
               | refine fix_move rfl rfl (by rfl) (by rfl) ?_
               | (apply fix_take rfl (by rfl)
                  · intro w' hSc
                    go_simp
                    (try simp (disch := omega) only [i64_id, u64_id, ↓IntWalk.iteOmega, Int.tdiv_eq_ediv_of_nonneg, Int.tmod_eq_emod_of_nonneg])
                    try rfl)
               | refine fix_pass rfl (by rfl) ?_); simp only [Act.put, setZa, setZ0, setZ1])
              refine fix_nil ?_
              go_wp2_with fail
              refine bodyPost_ret (results_cell_tmp1 rfl _ _ rfl (lab_result hb13)) rfl ?_
              rw [HPT.out]
              have HXF : Ext w w13 := ((HXW.out.trans HP9.out.rds.ext).trans (Ext.drew _)).grown hg13 ((HXW.out.trans HP9.out.rds.ext).trans (Ext.drew _)).size (fun q hq => by cases hq; exact Nat.le_refl _)
              refine ⟨.slice da i dc, ?_, ((HO9.out.ext (Ext.drew _)).kept hg13 (.inl (fun e => by have h1 := (HO9.out.lt _ e).1; have h2 := HRW.out; have h3 := HW8.out; omega))).lower (Nat.zero_le _), HXF⟩
              simp [hF0]
          · have d1 : decide ((i : Int) < Dd) = false := by rw [decide_eq_false_iff_not]; exact hlD
            clear hlD HCV
            go_wp2_with fail
            go_at_call 125
            refine (pcount' 1048576 (by decide) H7.out (by omega) HP6.out).mono ?_
            rintro e w9 ⟨er7, rfl, hp, hgw⟩
            have hb := hp.box
            have cc := hb.cell 16 (v := .int .i64 0) rfl
            have cf := hb.free 16
            have cl := hb.lt
            have HP7 : Hid (PS W (w9.setCell ⟨g, 16, none⟩ (.int .i64 z)) rb g s7 ⟨A, D, G, P, Lb.cfgOf ms, z, 0#64, 0#64⟩ (.slice da i dc)) := hp.store 16 _ rfl hp.dn
            have HO7 : Hid (OwnG Value.bool 4 (w9.setCell ⟨g, 16, none⟩ (.int .i64 z)) w8.heap.size (.slice da i dc) DP) := (HO6.out.kept hgw (.inl (fun e => by have := (HO6.out.lt rb e).1; have := HRL.out; omega))).kept (grown_set _ _ _ _) (.inl (fun e => by have := (HO6.out.lt g e).1; omega))
            clear hp hb hgw HP6 HO6
            go_upto_region 18 with fail
            generalize w9.setCell ⟨g, 16, none⟩ (.int .i64 z) = y7 at *
            clear cc cf cl
            go_wp2_with fail
            go_at_call 124
            refine (puint' H8.out (by omega) HP7.out).mono ?_
            rintro e w10 ⟨er8, rfl, hp, hgw⟩
            have hb := hp.box
            have cc := hb.cell 17 (v := encU 0#64) rfl
            have cf := hb.free 17
            have cl := hb.lt
            have HP8 : Hid (PS W (w10.setCell ⟨g, 17, none⟩ (encU su)) rb g s8 ⟨A, D, G, P, Lb.cfgOf ms, z, su, 0#64⟩ (.slice da i dc)) := hp.store 17 _ rfl hp.dn
            have HO8 : Hid (OwnG Value.bool 4 (w10.setCell ⟨g, 17, none⟩ (encU su)) w8.heap.size (.slice da i dc) DP) := (HO7.out.kept hgw (.inl (fun e => by have := (HO7.out.lt rb e).1; have := HRL.out; omega))).kept (grown_set _ _ _ _) (.inl (fun e => by have := (HO7.out.lt g e).1; omega))
            clear hp hb hgw HP7 HO7
            go_upto_region 19 with fail
            generalize w10.setCell ⟨g, 17, none⟩ (encU su) = y8 at *
            clear cc cf cl
            go_wp2_with fail
            go_at_call 124
            refine (puint' H9.out (by omega) HP8.out).mono ?_
            rintro e w11 ⟨er9, rfl, hp, hgw⟩
            have hb := hp.box
            have cc := hb.cell 18 (v := encU 0#64) rfl
            have cf := hb.free 18
            have cl := hb.lt
            have HP9 : Hid (PS W (w11.setCell ⟨g, 18, none⟩ (encU r)) rb g s9 ⟨A, D, G, P, Lb.cfgOf ms, z, su, r⟩ (.slice da i dc)) := hp.store 18 _ rfl hp.dn
            have HO9 : Hid (OwnG Value.bool 4 (w11.setCell ⟨g, 18, none⟩ (encU r)) w8.heap.size (.slice da i dc) DP) := (HO8.out.kept hgw (.inl (fun e => by have := (HO8.out.lt rb e).1; have := HRL.out; omega))).kept (grown_set _ _ _ _) (.inl (fun e => by have := (HO8.out.lt g e).1; omega))
            clear hp hb hgw HP8 HO8
            go_upto_region 20 with fail
            generalize w11.setCell ⟨g, 18, none⟩ (encU r) = y9 at *
            clear cc cf cl
            have HNR : Hid (g ≠ w.heap.size ∧ rb ≠ w.heap.size) := by
              have h1 := HP9.out.ge
              have h2 := HP9.out.rds.ge
              have h3 := HRW.out
              exact ⟨by omega, by omega⟩
            have HLD : Hid (∀ w', y9.grownBy w' (some w.heap.size) → (Instr.loadAt 29 (.pointer (some ⟨g, 0, none⟩))).run Tryz.prog w' = .ok (labV ⟨A, D, G, P, Lb.cfgOf ms, z, su, r⟩ (.slice da i dc)) w') := fun w' h => (LabAt.of_box (HP9.out.box.grown h (fun e => HNR.out.1 (Option.some.inj e)))).load
            obtain ⟨F, hF⟩ : ∃ F, fin s9.1 s9.2 = F := ⟨_, rfl⟩
            have HDN : Hid (∀ w', rb < w'.heap.size → RdAt w' rb s9.2 s9.1 → Calls Tryz.prog 127 #[.pointer (some ⟨rb, 0, none⟩)] w' fun e w'' => e = .returned (.int .i64 F) ∧ w' = w'') := fun w' _ hh => by
              rw [← hF]
              exact done_any w' rb s9.2 s9.1 (by omega) hh
            rw [hF] at HPT
            clear hF
            have HDL : Hid (DP.length ≤ 100000) := by have h1 := HO9.out.shape; obtain ⟨a1, c1, h2⟩ := h1; injection h2 with _ h3 _; show DP.length ≤ 100000; omega
            by_cases hF0 : F = 0
            · subst hF0
              refine wp_region_fix (fun w' => y9.grownBy w' (some w.heap.size)) [(0, true), (1, true), (2, false), (3, true), (4, true), (5, true), (6, false), (7, true), (8, false), (9, true)] (by kernel_rfl) (by kernel_rfl) ?_ ?_
              · exact grown_drew (grown_refl _ _)
              refine fix_load 29 rfl (by rfl) rfl (by rfl) (fun w' hS => HLD.out w' hS) ?_; simp only [Act.put, setZa, setZ0, setZ1]
              ((first
               | refine fix_move rfl rfl (by rfl) (by rfl) ?_
               | (apply fix_take rfl (by rfl)
                  · intro w' hSc
                    go_simp
                    (try simp (disch := omega) only [i64_id, u64_id, ↓IntWalk.iteOmega, Int.tdiv_eq_ediv_of_nonneg, Int.tmod_eq_emod_of_nonneg])
                    try rfl)
               | refine fix_pass rfl (by rfl) ?_); simp only [Act.put, setZa, setZ0, setZ1])
              (refine fix_do rfl (by rfl) (fun K hK => ?_)
               go_simp
               go_at_call 127
               refine (HDN.out y9.drew HP9.out.rds.rd.lt (HP9.out.rds.rd.ext (Ext.drew _))).mono ?_
               rintro e w' ⟨rfl, rfl⟩
               refine hK _ _ (by first | (with_reducible exact grown_refl _ _) | (with_reducible exact grown_drew (grown_refl _ _))) ?_
               clear hK K
               (try simp only [Act.put, setZa, setZ0, setZ1]))
              iterate 2 ((first
               | refine fix_move rfl rfl (by rfl) (by rfl) ?_
               | (apply fix_take rfl (by rfl)
                  · intro w' hSc
                    go_simp
                    (try simp (disch := omega) only [i64_id, u64_id, ↓IntWalk.iteOmega, Int.tdiv_eq_ediv_of_nonneg, Int.tmod_eq_emod_of_nonneg])
                    try rfl)
               | refine fix_pass rfl (by rfl) ?_); simp only [Act.put, setZa, setZ0, setZ1])
              refine fix_load 29 rfl (by rfl) rfl (by rfl) (fun w' hS => HLD.out w' hS) ?_; simp only [Act.put, setZa, setZ0, setZ1]
              (refine fix_do rfl (by rfl) (fun K hK => ?_)
               go_simp
               go_at_call 30
               refine (valid_any ⟨A, D, G, P, Lb.cfgOf ms, z, su, r⟩ (.slice da i dc) DP _ HDL.out (HO9.out.slice.ext (Ext.drew _))).mono ?_
               rintro e w12 ⟨rfl, hx12⟩
               have HX12 : Hid (Ext y9 w12) := (Ext.drew _).trans hx12
               refine hK _ _ (grown_ext HX12.out _) ?_
               clear hK K hx12
               (try simp only [Act.put, setZa, setZ0, setZ1]))
              ((first
               | refine fix_move rfl rfl (by rfl) (by rfl) ?_
               | (apply fix_take rfl (by rfl)
                  · intro w' hSc
                    go_simp
                    (try simp (disch := omega) only [i64_id, u64_id, ↓IntWalk.iteOmega, Int.tdiv_eq_ediv_of_nonneg, Int.tmod_eq_emod_of_nonneg])
                    try rfl)
               | refine fix_pass rfl (by rfl) ?_); simp only [Act.put, setZa, setZ0, setZ1])
              have hbr := HBR.out.ext (HP9.out.rds.ext.trans HX12.out)
              (refine fix_do rfl (by rfl) (fun K hK => ?_)
               refine wp_of_list rfl ?_
               refine wpList_store_lab3 (l := ⟨A, D, G, P, Lb.cfgOf ms, z, su, r⟩) (d := .slice da i dc) _ _ rfl (by rfl) rfl rfl hbr rfl rfl ?_
               intro w13 hg13 hb13
               have hS13 : y9.grownBy w13 (some w.heap.size) := grown_trans (grown_ext HX12.out _) hg13
               refine hK _ _ hS13 ?_
               clear hK K
               (try simp only [Act.put]))
              ((first
               | refine fix_move rfl rfl (by rfl) (by rfl) ?_
               | (apply fix_take rfl (by rfl)
                  · intro w' hSc
                    go_simp
                    (try simp (disch := omega) only [i64_id, u64_id, ↓IntWalk.iteOmega, Int.tdiv_eq_ediv_of_nonneg, Int.tmod_eq_emod_of_nonneg])
                    try rfl)
               | refine fix_pass rfl (by rfl) ?_); simp only [Act.put, setZa, setZ0, setZ1])
              refine fix_nil ?_
              go_wp2_with fail
              refine bodyPost_ret (results_cell_tmp1 rfl _ _ rfl (lab_result hb13)) rfl ?_
              rw [HPT.out]
              have HXF : Ext w w13 := ((HXW.out.trans HP9.out.rds.ext).trans HX12.out).grown hg13 ((HXW.out.trans HP9.out.rds.ext).trans HX12.out).size (fun q hq => by cases hq; exact Nat.le_refl _)
              refine ⟨.slice da i dc, ?_, ((HO9.out.ext HX12.out).kept hg13 (.inl (fun e => by have h1 := (HO9.out.lt _ e).1; have h2 := HRW.out; have h3 := HW8.out; omega))).lower (Nat.zero_le _), HXF⟩
              simp
            · have q1 : (F == 0) = false := by rw [beq_eq_false_iff_ne]; exact hF0
              refine wp_region_fix (fun w' => y9.grownBy w' (some w.heap.size)) [(0, true), (1, true), (2, false), (3, true), (4, true), (5, true), (6, false), (7, true), (8, false), (9, true)] (by kernel_rfl) (by kernel_rfl) ?_ ?_
              · exact grown_drew (grown_refl _ _)
              refine fix_load 29 rfl (by rfl) rfl (by rfl) (fun w' hS => HLD.out w' hS) ?_; simp only [Act.put, setZa, setZ0, setZ1]
              ((first
               | refine fix_move rfl rfl (by rfl) (by rfl) ?_
               | (apply fix_take rfl (by rfl)
                  · intro w' hSc
                    go_simp
                    (try simp (disch := omega) only [i64_id, u64_id, ↓IntWalk.iteOmega, Int.tdiv_eq_ediv_of_nonneg, Int.tmod_eq_emod_of_nonneg])
                    try rfl)
               | refine fix_pass rfl (by rfl) ?_); simp only [Act.put, setZa, setZ0, setZ1])
              (refine fix_do rfl (by rfl) (fun K hK => ?_)
               go_simp
               go_at_call 127
               refine (HDN.out y9.drew HP9.out.rds.rd.lt (HP9.out.rds.rd.ext (Ext.drew _))).mono ?_
               rintro e w' ⟨rfl, rfl⟩
               refine hK _ _ (by first | (with_reducible exact grown_refl _ _) | (with_reducible exact grown_drew (grown_refl _ _))) ?_
               clear hK K
               (try simp only [Act.put, setZa, setZ0, setZ1]))
              iterate 2 ((first
               | refine fix_move rfl rfl (by rfl) (by rfl) ?_
               | (apply fix_take rfl (by rfl)
                  · intro w' hSc
                    go_simp
                    (try simp (disch := omega) only [i64_id, u64_id, ↓IntWalk.iteOmega, Int.tdiv_eq_ediv_of_nonneg, Int.tmod_eq_emod_of_nonneg])
                    try rfl)
               | refine fix_pass rfl (by rfl) ?_); simp only [Act.put, setZa, setZ0, setZ1])
              ((first
               | refine fix_move rfl rfl (by rfl) (by rfl) ?_
               | (apply fix_take rfl (by rfl)
                  · intro w' hSc
                    go_simp
                    (try simp (disch := omega) only [i64_id, u64_id, ↓IntWalk.iteOmega, Int.tdiv_eq_ediv_of_nonneg, Int.tmod_eq_emod_of_nonneg])
                    try rfl)
               | refine fix_pass rfl (by rfl) ?_); simp only [Act.put, setZa, setZ0, setZ1])
              refine fix_passE rfl (by rfl) (grown_drew (grown_refl _ _)) ?_; simp only [Act.put, setZa, setZ0, setZ1]
              ((first
               | refine fix_move rfl rfl (by rfl) (by rfl) ?_
               | (apply fix_take rfl (by rfl)
                  · intro w' hSc
                    go_simp
                    (try simp (disch := omega) only [i64_id, u64_id, ↓IntWalk.iteOmega, Int.tdiv_eq_ediv_of_nonneg, Int.tmod_eq_emod_of_nonneg])
                    try rfl)
               | refine fix_pass rfl (by rfl) ?_); simp only [Act.put, setZa, setZ0, setZ1])
              have hbr := HBR.out.ext (HP9.out.rds.ext.trans (Ext.drew _))
              (refine fix_do rfl (by rfl) (fun K hK => ?_)
               refine wp_of_list rfl ?_
               refine wpList_store_lab3 (l := ⟨A, D, G, P, Lb.cfgOf ms, z, su, r⟩) (d := .slice da i dc) _ _ rfl (by rfl) rfl rfl hbr rfl rfl ?_
               intro w13 hg13 hb13
               have hS13 : y9.grownBy w13 (some w.heap.size) := grown_trans (grown_ext (Ext.drew _) _) hg13
               refine hK _ _ hS13 ?_
               clear hK K
               (try simp only [Act.put]))
              ((first
               | refine fix_move rfl rfl (by rfl) (by rfl) ?_
               | (apply fix_take rfl (by rfl)
                  · intro w' hSc
                    go_simp
                    (try simp (disch := omega) only [i64_id, u64_id, ↓IntWalk.iteOmega, Int.tdiv_eq_ediv_of_nonneg, Int.tmod_eq_emod_of_nonneg])
                    try rfl)
               | refine fix_pass rfl (by rfl) ?_); simp only [Act.put, setZa, setZ0, setZ1])
              refine fix_nil ?_
              go_wp2_with fail
              refine bodyPost_ret (results_cell_tmp1 rfl _ _ rfl (lab_result hb13)) rfl ?_
              rw [HPT.out]
              have HXF : Ext w w13 := ((HXW.out.trans HP9.out.rds.ext).trans (Ext.drew _)).grown hg13 ((HXW.out.trans HP9.out.rds.ext).trans (Ext.drew _)).size (fun q hq => by cases hq; exact Nat.le_refl _)
              refine ⟨.slice da i dc, ?_, ((HO9.out.ext (Ext.drew _)).kept hg13 (.inl (fun e => by have h1 := (HO9.out.lt _ e).1; have h2 := HRW.out; have h3 := HW8.out; omega))).lower (Nat.zero_le _), HXF⟩
              simp [hF0]
end Go.Proofs.YtjabgpejmnpamaaGreatDoor
