/-
  Chapter 31 (election): Elect.
-/
import Derived.Test.YtpmbbeflgifgaaaElR
import Derived.Test.YtpmbbeflgifgaaaElU
namespace Go.Proofs.Ytpmbbeflgifgaaa
open Go.RowKit
set_option linter.unusedVariables false

def ElectEnd (w : World) (ls : List LD) (rd : List Bool) (e : Ending) (w' : World) : Prop :=
  ∃ dv av, e = .returned (.tuple #[labV (labE ls rd).1 dv, av, .int .i64 (errE ls rd : Nat)]) ∧ SliceAt Value.bool w' dv (labE ls rd).2 ∧ SliceAt encI w' av (placesE ls rd) ∧ Ext w w'
abbrev zeroA : Array Value := labA ld0.1 (.slice none 0 0)
theorem lab_result {w : World} {g : Nat} {l : Lab} {d : Value} {t : TypeId} (h : BoxAt w g (labA l d) t) : (loadVar 32 ⟨g, 0, none⟩).run Try.prog w = .ok (labV l d) w :=
  run_loadVar_mid w g 0 _ (labA l d).toList _ (LabAt.of_box h).1 Try.underlying32 rfl info_lab
theorem results_cell_tmp2 {P : Program} {fn : Func} {p a b : Tmp} {ty : TypeId} (h : fn.results = #[.cell p ty, .tmp a, .tmp b]) (tmps : Array Value) (w : World) {g : Nat} {v : Value}
    (hp : tmps.getD p undef = .pointer (some ⟨g, 0, none⟩)) (hl : (loadVar ty ⟨g, 0, none⟩).run P w = .ok v w) :
    (results fn tmps).run P w = .ok (.tuple #[v, tmps.getD a undef, tmps.getD b undef]) w := by
  have hp' : tmps[p]?.getD undef = .pointer (some ⟨g, 0, none⟩) := by simpa using hp
  simp [results, h, hp', asAddr, hl]
theorem cand_next {ls : List LD} {rd : List Bool} {i : Nat} : (List.range (i + 1)).filter (candN ls rd) = if candN ls rd i then (List.range i).filter (candN ls rd) ++ [i] else (List.range i).filter (candN ls rd) := by
  rw [List.range_succ, List.filter_append]
  cases h : candN ls rd i <;> simp [h]
/-- a label is stored in a box of the call's own: all other blocks are as they were -/
theorem wpList_store_lab2 {ops : Array Oper} {rest : List Oper} {o : Oper} {a : Act} {w w0 : World} {Q : Exit → Act → World → Prop} (x y : Operand) (ho : o.op = .store 32 x y)
    (hw : Region.wanted o (yielded ops a.tmps) = true) {g : Nat} {cs : Array Value} {t : TypeId} {l : Lab} {d : Value} (hx : a.eval x = .pointer (some ⟨g, 0, none⟩)) (hy : a.eval y = labV l d) (hb : BoxAt w g cs t) (hs : cs.size = 19) (hd : d.oneCell' = true)
    (he : Ext w0 w) (hg : w0.heap.size ≤ g)
    (h : ∀ w', Ext w0 w' → BoxAt w' g (labA l d) t → (∀ k, k ≠ g → w'.heap[k]? = w.heap[k]?) → wpList Try.prog ops Q rest (a.put o.dst undef) w') : wpList Try.prog ops Q (o :: rest) a w := by
  refine wpList_step fun K hK => ?_
  rw [if_pos hw]
  unfold Oper.wp execOp
  simp only [ho, hx, hy, Sem.run_bind, Sem.run_pure, Result.andThen_ok, lab_store hb hs hd]
  refine hK _ _ (h _ (Ext.setCells hg _ _ _ he) ?_ (fun k hk => setCells_other _ _ _ k hk))
  have := hb.setCells (labA l d).toList (by rw [hs]; rfl)
  simpa using this
theorem OwnG.other {α : Type} {enc : α → Value} {e : TypeId} {w w' : World} {B g : Nat} {v : Value} {l : List α} (h : OwnG enc e w B v l) (ho : ∀ k, k ≠ g → w'.heap[k]? = w.heap[k]?) (hg : g < B) : OwnG enc e w' B v l :=
  ⟨h.1, h.2.imp id (fun ⟨q, cap, cur, hv, hq, hh, r⟩ => ⟨q, cap, cur, hv, hq, (ho q (by omega)).trans hh, r⟩)⟩
def fillN (D j : Nat) : List Int := List.replicate j (-1) ++ List.replicate (D - j) 0
theorem fillN_len {D j : Nat} (h : j ≤ D) : (fillN D j).length = D := by unfold fillN; simp; omega
theorem fillN_next {D j : Nat} (h : j < D) : (fillN D j).set j (-1) = fillN D (j + 1) := by
  unfold fillN
  rw [List.set_append_right _ _ (by simp), List.length_replicate, Nat.sub_self]
  obtain ⟨r, hr⟩ : ∃ r, D - j = r + 1 := ⟨D - j - 1, by omega⟩
  rw [hr, List.replicate_succ, List.set_cons_zero, List.replicate_succ', show D - (j + 1) = r by omega]
  simp
theorem fillN_all (D : Nat) : fillN D D = List.replicate D (-1) := by unfold fillN; simp
theorem OwnG.made (w : World) (n base : Nat) (hb : base ≤ w.heap.size) (hm : n ≤ maxLen) : OwnG encI 3 (w.alloc (.cells (madeCells #[.int .i64 0] n) 3)) base (.slice (some ⟨w.heap.size, 0, none⟩) n n) (fillN n 0) := by
  have hl : (fillN n 0).length = n := fillN_len (Nat.zero_le _)
  have hc : madeCells #[.int .i64 0] n = ((fillN n 0).map encI).toArray := by
    obtain ⟨c, h, hs, hc⟩ := World.rowIs_made w (.int .i64 0) n 3
    have h2 : (w.alloc (.cells (madeCells #[.int .i64 0] n) 3)).heap[w.heap.size]? = some (.cells (madeCells #[.int .i64 0] n) 3 (0, 0)) := heap_alloc_new _ _
    rw [h2] at h
    injection h with h
    injection h with h _ _
    subst h
    refine Array.ext_getElem? fun i => ?_
    by_cases hi : i < n
    · rw [hc i hi]; simp [fillN, hi]
    · rw [Array.getElem?_eq_none (by omega)]; simp [fillN]; omega
  have := OwnG.lit (enc := encI) w (fillN n 0) 3 base hb (by rw [hl]; exact hm) _ hc
  rwa [hl] at this
/-- what lies in a list of places -/
def PlacesOk (n : Nat) (l : List Int) : Prop := ∀ z, z ∈ l → z = -1 ∨ ∃ j : Nat, j < n ∧ z = j
theorem places_start (n D : Nat) : PlacesOk n (List.replicate D (-1)) := fun z hz => .inl (List.mem_replicate.1 hz).2
theorem places_step {ls : List LD} {m n i : Nat} {A : List Int} (h : PlacesOk n A) (hi : i < n) : PlacesOk n (El.stepA (genN ls) (diskN ls) (curN ls m) (oldN ls m) A i) := by
  unfold El.stepA
  split
  · split
    · intro z hz
      rcases List.mem_or_eq_of_mem_set hz with hz | rfl
      · exact h z hz
      · exact .inr ⟨i, hi, rfl⟩
    · exact h
  · exact h
theorem step_len {ls : List LD} {m i : Nat} {A : List Int} : (El.stepA (genN ls) (diskN ls) (curN ls m) (oldN ls m) A i).length = A.length := by
  unfold El.stepA
  split
  · split
    · rw [List.length_set]
    · rfl
  · rfl
def foldP (ls : List LD) (m D : Nat) (cs : List Nat) : List Int := cs.foldl (El.stepA (genN ls) (diskN ls) (curN ls m) (oldN ls m)) (List.replicate D (-1))
theorem foldP_next {ls : List LD} {m D : Nat} {cs : List Nat} {k : Nat} (h : k < cs.length) : foldP ls m D (cs.take (k + 1)) = El.stepA (genN ls) (diskN ls) (curN ls m) (oldN ls m) (foldP ls m D (cs.take k)) cs[k] := by
  unfold foldP
  rw [List.take_succ_eq_append_getElem h, List.foldl_append]; rfl
theorem foldP_ok {ls : List LD} {m D n : Nat} {cs : List Nat} (h : ∀ i, i ∈ cs → i < n) : ∀ k, k ≤ cs.length → (foldP ls m D (cs.take k)).length = D ∧ PlacesOk n (foldP ls m D (cs.take k))
  | 0, _ => ⟨by simp [foldP], by rw [List.take_zero]; exact places_start n D⟩
  | k + 1, hk => by
    have ih := foldP_ok (ls := ls) (m := m) (D := D) h k (by omega)
    rw [foldP_next (show k < cs.length by omega)]
    exact ⟨by rw [step_len]; exact ih.1, places_step ih.2 (h _ (List.getElem_mem _))⟩
set_option maxRecDepth 100000 in
set_option maxHeartbeats 4000000 in
theorem elect_any (vl vr : Value) (ls : List LD) (rd : List Bool) (w : World) (hn : ls.length ≤ 900) (hr : rd.length ≤ 100000) (hdl : ∀ i, (ldN ls i).2.length ≤ 100000)
    (h : LabsAt w vl ls) (hrd : SliceAt Value.bool w vr rd) :
    Calls Try.prog 11 #[vl, vr] w (ElectEnd w ls rd) := by
  obtain ⟨i0, hI, hI0, hI1, hI2⟩ := info_parts infoI
  obtain ⟨al, cl, rfl⟩ := h.shape
  obtain ⟨ar, cr, rfl⟩ := hrd.shape
  have HL := Lib.hid h
  have HR := Lib.hid hrd
  have e1 : Ext w (w.alloc (.cells zeroA 32)) := Ext.alloc _ _
  have b1 : BoxAt (w.alloc (.cells zeroA 32)) w.heap.size zeroA 32 := BoxAt.new _ _ _
  have s1 : w.heap.size < (w.alloc (.cells zeroA 32)).heap.size := by simp
  have HE1 := Lib.hid e1
  have HB1 := Lib.hid b1
  clear h hrd e1 b1
  by_cases hlen : ls.length = rd.length
  · have HLEN := Lib.hid hlen
    have HCL : Hid (candL ls rd = (List.range ls.length).filter (candN ls rd)) := rfl
    have hck : ∀ i, i < ls.length → candN ls rd i = (rd.getD i false && validL (ldN ls i).1 (ldN ls i).2) := fun i _ => rfl
    have HCK := Lib.hid hck
    obtain ⟨n, hnn⟩ : ∃ n, ls.length = n := ⟨_, rfl⟩
    have HN1 := Lib.hid hnn
    have HN2 := Lib.hid (hlen.symm.trans hnn)
    rw [← hlen] at HR ⊢
    rw [hnn] at HR HL hn HCL HCK ⊢
    clear hlen hnn hck hr
    go_enter Try.func11, Try.ntmps11
    go_wp2_with fail
    go_loopw [7, 26] (fun ct it wr => ∃ i : Nat, i ≤ n ∧ it = .int .i64 i ∧ Hid (OwnG encN 3 wr w.heap.size ct ((List.range i).filter (candN ls rd))) ∧ Hid (BoxAt wr w.heap.size zeroA 32) ∧ Hid (Ext w wr)) (fun _ it _ => n - (intOf it).toNat)
    case atStart => exact ⟨0, Nat.zero_le _, rfl, Lib.hid OwnG.nil, HB1, HE1⟩
    case round =>
      obtain ⟨i, hi, rfl, HC, HB, HX⟩ := hrel
      by_cases hlt : i < n
      · have hin : (i : Int) < (n : Int) := by omega
        have hil : i < ls.length := by rw [HN1.out]; exact hlt
        have hir : i < rd.length := by rw [HN2.out]; exact hlt
        obtain ⟨bl, ol, rfl, dv, hA, hD⟩ := (HL.out.ext HX.out).at i hil
        obtain ⟨ad, cd, rfl⟩ := hD.shape
        obtain ⟨br, or_, rfl, hbr, hcr⟩ := (HR.out.ext HX.out).get i hir
        rw [← getD_in (d := false) hir] at hcr
        have HV := Lib.hid (fun w' (e : Ext wr w') => valid_any (ldN ls i).1 _ _ w' (hdl i) (hD.ext e))
        have HCN := Lib.hid (cand_next (ls := ls) (rd := rd) (i := i))
        have HCI := Lib.hid (HCK.out i hlt)
        have hcl : ((List.range i).filter (candN ls rd)).length ≤ 900 := Nat.le_trans (List.length_filter_le _ _) (by rw [List.length_range]; omega)
        obtain ⟨av, cv, rfl⟩ := HC.out.shape
        generalize (List.range i).filter (candN ls rd) = cs at *
        obtain ⟨k, hk⟩ : ∃ k, cs.length = k := ⟨_, rfl⟩
        have HK := Lib.hid hk
        rw [hk] at HC hcl ⊢
        have HA := Lib.hid hA
        generalize rd.getD i false = r at *
        generalize (ldN ls i).2.length = q at *
        generalize (ldN ls i).2 = x at *
        generalize (ldN ls i).1 = L at *
        clear hk hA hD
        go_upto_region 7 with (first | (refine wpList_loadR 32 _ rfl (by rfl) rfl HA.out.load ?_) | (refine wpList_store_lab (w0 := wr) (l := L) (d := .slice ad q cd) _ _ rfl (by rfl) rfl rfl (BoxAt.new _ _ _) rfl rfl (Ext.alloc _ _) (Nat.le_refl _) ?_; intro w2 hx2 hb2 hs2))
        have hcr2 := (hx2.cell _ _ hbr).trans hcr
        have hbr2 := Nat.lt_of_lt_of_le hbr hx2.size
        have hl2 := hb2.lt
        have HX2 := Lib.hid hx2
        have HB2 := Lib.hid hb2
        generalize validL L x = b at *
        clear hx2 hb2 hs2 hcr hbr
        cases r with
        | false =>
          rw [Bool.false_and] at HCI
          go_wp2_with fail
          go_roundw
          case rel => exact ⟨i + 1, by omega, by go_num, by rw [HCN.out, HCI.out, if_neg (by simp)]; exact HC.out.ext HX2.out, HB.out.ext HX2.out, HX.out.trans HX2.out⟩
          case measure => simp [intOf]; omega
        | true =>
          rw [Bool.true_and] at HCI
          go_wp2_with (refine wpList_loadR 32 _ rfl (by rfl) rfl (LabAt.of_box HB2.out).load ?_)
          go_at_call 22
          refine (HV.out _ HX2.out).mono ?_
          rintro e w3 ⟨rfl, hb3⟩
          have HX3 : Hid (Ext wr w3) := HX2.out.trans hb3
          clear hb3
          cases b with
          | false =>
            go_wp2_with fail
            go_roundw
            case rel => exact ⟨i + 1, by omega, by go_num, by rw [HCN.out, HCI.out, if_neg (by simp)]; exact HC.out.ext HX3.out, HB.out.ext HX3.out, HX.out.trans HX3.out⟩
            case measure => simp [intOf]; omega
          | true =>
            go_wp2_with (at_builtin; refine Classical.byContradiction (fun hN => ?_))
            refine hN ?_
            clear hN
            have e1 : Ext w3 (w3.alloc (.cells #[encN i] 3)) := Ext.alloc _ _
            have hown := (HC.out.ext HX3.out).ext e1
            have hsz := (HX.out.trans HX3.out).size
            have hbw := (HB.out.ext HX3.out).ext e1
            refine wpList_append_one rfl _ _ _ rfl w.heap.size 3 i0 (.int .i64 0) 8 Try.underlying33 hI hI0 hI1 hI2 rfl _ _ _ rfl hown _ (encN i) rfl rfl (cell_new1 _ _ _) (by rw [HK.out]; unfold maxLen; omega) (by rw [HK.out]; omega) (by simp; omega) ?_
            intro v6 w6 ho6 hg6 _
            have HX6 : Hid (Ext w w6) := ((HX.out.trans HX3.out).trans e1).grown hg6 (by simp; omega) (fun q hq => (hown.lt q hq).1)
            have HO6 : Hid (OwnG encN 3 w6 w.heap.size v6 (cs ++ [i])) := OwnG.snoc (enc := encN) (x := i) ho6
            have HB6 : Hid (BoxAt w6 w.heap.size zeroA 32) := hbw.grown hg6 (fun e => hown.not_box hbw (by decide) e.symm)
            clear ho6 hg6 hown e1 hbw
            go_wp2
            go_roundw
            case rel => exact ⟨i + 1, by omega, by go_num, by rw [HCN.out, HCI.out, if_pos rfl]; exact HO6, HB6, HX6⟩
            case measure => simp [intOf]; omega
      · have hin : i = n := by omega
        subst hin
        have hin2 : ¬ ((i : Int) < (i : Int)) := by omega
        rw [← HCL.out] at HC
        have hcl : (candL ls rd).length ≤ 900 := by rw [HCL.out]; exact Nat.le_trans (List.length_filter_le _ _) (by rw [List.length_range]; exact hn)
        obtain ⟨av, cv, rfl⟩ := HC.out.shape
        by_cases hcz : candL ls rd = []
        · have hb := best_nil hcz
          have HER := Lib.hid (errE_none HLEN.out hb)
          have hbad := bad_lab (ls := ls) (rd := rd) (by rw [HER.out]; decide)
          have HLB := Lib.hid hbad.1
          have HPL := Lib.hid hbad.2
          rw [hcz] at HC ⊢
          clear hbad hb hcz
          go_wp2_with (refine wpList_store_lab (w0 := w) (l := ld0.1) (d := .slice none 0 0) _ _ rfl (by rfl) rfl rfl HB.out rfl rfl HX.out (Nat.le_refl _) ?_; intro w2 hx2 hb2 hs2)
          have hld := lab_result hb2
          refine bodyPost_ret (results_cell_tmp2 rfl _ _ rfl hld) rfl ⟨.slice none 0 0, .slice none 0 0, by rw [HER.out, HLB.out]; rfl, by rw [HLB.out]; exact SliceAt.nil, by rw [HPL.out]; exact SliceAt.nil, hx2⟩
        · obtain ⟨hgp, hbest⟩ := choose_best (ls := ls) (rd := rd) (by rw [HN1.out]; omega) hcz
          obtain ⟨hm, hcm⟩ := best_facts hbest
          have hvm := valid_facts (cand_valid hcm)
          have HFM := Lib.hid (places_fold hbest)
          have HBE := Lib.hid hbest
          have hcp : 0 < (candL ls rd).length := List.length_pos_iff.2 hcz
          have HPC := Lib.hid (cand_places (ls := ls) (rd := rd))
          have HCM : Hid (∀ y, y ∈ candL ls rd → y < i ∧ candN ls rd y = true) := fun y hy => by unfold candL at hy; rw [List.mem_filter, List.mem_range, HN1.out] at hy; exact hy
          have HCH := Lib.hid (fun (w' : World) (e : Ext wr w') => choose_any _ _ ls (candL ls rd) w' (by rw [HN1.out]; omega) (by omega) cand_places hdl hgp ((HL.out.ext HX.out).ext e) (HC.out.slice.ext e))
          generalize El.chooseF (diskN ls) (deadL ls) (gOf ls (maxG ls (candL ls rd)) (candL ls rd)) = m at *
          generalize candL ls rd = cs at *
          obtain ⟨c, hc⟩ : ∃ c, cs.length = c := ⟨_, rfl⟩
          have HCC := Lib.hid hc
          rw [hc] at HC hcl hcp HCH ⊢
          have hc0 : ((c : Int) == 0) = false := by rw [beq_eq_false_iff_ne]; omega
          clear hcz hbest hgp hc
          rw [HN1.out] at hm
          go_wp2_with fail
          go_at_call 23
          refine (HCH.out _ (Ext.refl _)).mono ?_
          rintro e w3 ⟨rfl, hb3⟩
          have HX3 : Hid (Ext w w3) := HX.out.trans hb3
          have HB3 := Lib.hid (HB.out.ext hb3)
          have HC3 := Lib.hid (HC.out.slice.ext hb3)
          obtain ⟨bl, ol, rfl, dv, hA, hD⟩ := (HL.out.ext HX3.out).at m (by rw [HN1.out]; exact hm)
          obtain ⟨ad, cd, rfl⟩ := hD.shape
          have HA := Lib.hid hA
          have HD := Lib.hid hD
          have hmi : (m : Int) < (i : Int) := by omega
          have hm0 : (0 : Int) ≤ (m : Int) := by omega
          clear hA hD hb3
          go_upto_region 13 with (first | (refine wpList_loadR 32 _ rfl (by rfl) rfl HA.out.load ?_) | (refine wpList_store_lab (w0 := w3) (l := (ldN ls m).1) (d := .slice ad (ldN ls m).2.length cd) _ _ rfl (by rfl) rfl rfl (BoxAt.new _ _ _) rfl rfl (Ext.alloc _ _) (Nat.le_refl _) ?_; intro w4 hx4 hb4 hs4))
          obtain ⟨hv1, hv2, hv3, hv4, hv5, hv6, hv7, hv8, _, _⟩ := hvm
          have hDd : (ldN ls m).1.c.d = (disksN ls m : Int) := by unfold disksN; omega
          have hDl : (ldN ls m).2.length = disksN ls m := by unfold disksN; omega
          have hD4 : 4 ≤ disksN ls m ∧ disksN ls m ≤ 60 := by unfold disksN; omega
          have c4 : w4.cell? ⟨w3.heap.size, 4, none⟩ = some (.int .i64 (disksN ls m : Nat)) := by rw [← hDd]; exact hb4.cell 4 rfl
          have HB4 := Lib.hid hb4
          have HX4 := Lib.hid hx4
          have hg10 := hb4.lt
          have HDD : Hid (disksN ls m = disksN ls m) := rfl
          obtain ⟨D, hDe⟩ : ∃ D, disksN ls m = D := ⟨_, rfl⟩
          have HDE := Lib.hid hDe
          rw [hDe] at c4 hD4 hDl HFM
          have HDL := Lib.hid hDl
          rw [hDl] at HB4 HD
          clear hDd hDl hDe hb4 hx4 hs4 hv1 hv2 hv3 hv4 hv5 hv6 hv7 hv8 HDD
          have hmk : ∀ w : World, (Instr.makeSlice 33 (.int .i64 (D : Int)) (.int .i64 (D : Int))).run Try.prog w = .ok (.slice (some ⟨w.heap.size, 0, none⟩) D D) (w.alloc (.cells (madeCells #[.int .i64 0] D) 3)) :=
            run_make_row' 33 3 (.int .i64 0) 8 Try.underlying33 infoI rfl .i64 .i64 D (by omega) (by first | omega | (unfold maxLen; omega))
          go_wp2_with fail
          have HO5 : Hid (OwnG encI 3 (w4.alloc (.cells (madeCells #[.int .i64 0] D) 3)) w4.heap.size (.slice (some ⟨w4.heap.size, 0, none⟩) D D) (fillN D 0)) := OwnG.made w4 D w4.heap.size (Nat.le_refl _) (by unfold maxLen; omega)
          have HX5 : Hid (Ext w4 (w4.alloc (.cells (madeCells #[.int .i64 0] D) 3))) := Ext.alloc _ _
          generalize w4.alloc (.cells (madeCells #[.int .i64 0] D) 3) = w5 at *
          clear hmk c4
          go_loopw [60] (fun jt wr => ∃ j : Nat, j ≤ D ∧ jt = .int .i64 j ∧ Hid (OwnG encI 3 wr w4.heap.size (.slice (some ⟨w4.heap.size, 0, none⟩) D D) (fillN D j)) ∧ Hid (Ext w4 wr)) (fun jt _ => D - (intOf jt).toNat)
          case atStart => exact ⟨0, Nat.zero_le _, rfl, HO5, HX5⟩
          case round =>
            obtain ⟨j, hj, rfl, HO, HXr⟩ := hrel
            have hfl : (fillN D j).length = D := fillN_len hj
            by_cases hjD : j < D
            · have hjI : (j : Int) < (D : Int) := by omega
              have hcj := HO.out.at hfl.symm (show j < (fillN D j).length by rw [hfl]; exact hjD)
              have hfj := HO.out.frees hfl.symm j
              have hlj : w4.heap.size < wr.heap.size := (OwnG.lt HO.out w4.heap.size (by simp [Value.ownBlock])).2
              have HO6 : Hid (OwnG encI 3 (wr.setCell ⟨w4.heap.size, j, none⟩ (.int .i64 (-1))) w4.heap.size (.slice (some ⟨w4.heap.size, 0, none⟩) D D) (fillN D (j + 1))) := by
                show OwnG _ _ _ _ _ _
                rw [← fillN_next hjD]; exact HO.out.put hfl.symm j (-1)
              generalize (fillN D j)[j]'(by rw [hfl]; exact hjD) = zj at *
              clear hfl
              go_wp2_with fail
              go_roundw
              case rel => exact ⟨j + 1, by omega, by go_num, HO6, HXr.out.setOwn (Nat.le_refl _)⟩
              case measure => simp [intOf]; omega
            · have hjD : j = D := by omega
              subst hjD
              have hin3 : ¬ ((j : Int) < (j : Int)) := by omega
              rw [fillN_all] at HO
              have HXW4 : Hid (Ext w w4) := HX3.out.trans HX4.out
              have HST : Hid (OwnG encI 3 wr w4.heap.size (.slice (some ⟨w4.heap.size, 0, none⟩) j j) (foldP ls m j (cs.take 0))) := HO
              clear HO HO5 HX5
              generalize wr = wo at *
              go_wp2_with fail
              go_loopw [69] (fun kt wq => ∃ k : Nat, k ≤ c ∧ kt = .int .i64 k ∧ Hid (OwnG encI 3 wq w4.heap.size (.slice (some ⟨w4.heap.size, 0, none⟩) j j) (foldP ls m j (cs.take k))) ∧ Hid (Ext w4 wq)) (fun kt _ => c - (intOf kt).toNat)
              case atStart => exact ⟨0, Nat.zero_le _, rfl, HST, HXr⟩
              case round =>
                obtain ⟨k, hk, rfl, HO, HXq⟩ := hrel
                have hfp := foldP_ok (ls := ls) (m := m) (D := j) (fun y hy => (HCM.out y hy).1) k (by rw [HCC.out]; exact hk)
                by_cases hkc : k < c
                · have hkI : (k : Int) < (c : Int) := by omega
                  have hkl : k < cs.length := by rw [HCC.out]; exact hkc
                  have hxq3 : Ext w3 wr := HX4.out.trans HXq.out
                  obtain ⟨bc, oc, rfl, hbc, hcc⟩ := (HC3.out.ext hxq3).get k hkl
                  obtain ⟨hyn, hyc⟩ := HCM.out _ (List.getElem_mem hkl)
                  have HFN := Lib.hid (foldP_next (ls := ls) (m := m) (D := j) hkl)
                  generalize cs[k] = y at *
                  obtain ⟨bl', ol', hble, dvy, hAy, hDy⟩ := ((HL.out.ext HX3.out).ext hxq3).at y (by rw [HN1.out]; exact hyn)
                  cases hble
                  obtain ⟨ay, cy, rfl⟩ := hDy.shape
                  have hvy := valid_facts (cand_valid hyc)
                  have hEQ := Lib.hid (show ∀ (w' : World), Ext wr w' → Calls Try.prog 24 #[labV (ldN ls y).1 (.slice ay (ldN ls y).2.length cy), labV (ldN ls m).1 (.slice ad j cd)] w' (BoolEnd w' (eqN ls y m)) from fun w' e => equal_any (ldN ls y).1 (ldN ls m).1 _ _ _ _ w' (hdl y) (hdl m) (hDy.ext e) ((HD.out.ext hxq3).ext e))
                  have HAY := Lib.hid hAy
                  have HXQ3 := Lib.hid hxq3
                  have HBQ := Lib.hid (HB4.out.ext HXq.out)
                  have HDQ := Lib.hid (HD.out.ext hxq3)
                  have HVY := Lib.hid hvy
                  have HYC := Lib.hid hyc
                  have hyI : (y : Int) < (i : Int) := by omega
                  have hy0 : (0 : Int) ≤ (y : Int) := by omega
                  have HFP1 := Lib.hid hfp.1
                  have HFP2 := Lib.hid hfp.2
                  generalize foldP ls m j (cs.take k) = A at *
                  obtain ⟨qy, hqy⟩ : ∃ q, (ldN ls y).2.length = q := ⟨_, rfl⟩
                  have HQY := Lib.hid hqy
                  rw [hqy] at hEQ HAY
                  clear hxq3 hAy hDy hvy hyc hfp hqy
                  go_upto_region 23 with (first | (refine wpList_loadR 32 _ rfl (by rfl) rfl HAY.out.load ?_) | (refine wpList_store_lab (w0 := wr) (l := (ldN ls y).1) (d := .slice ay qy cy) _ _ rfl (by rfl) rfl rfl (BoxAt.new _ _ _) rfl rfl (Ext.alloc _ _) (Nat.le_refl _) ?_; intro w6 hx6 hb6 hs6))
                  have HX6 := Lib.hid hx6
                  have HB6 := Lib.hid hb6
                  have HBE6 := Lib.hid (HBQ.out.ext hx6)
                  clear hx6 hb6 hs6
                  go_wp2_with (first | (refine wpList_loadR 32 _ rfl (by rfl) rfl (LabAt.of_box HB6.out).load ?_) | (refine wpList_loadR 32 _ rfl (by rfl) rfl (LabAt.of_box HBE6.out).load ?_))
                  go_at_call 24
                  refine (hEQ.out _ HX6.out).mono ?_
                  rintro e w7 ⟨rfl, hx7⟩
                  have hLY := (LabAt.of_box HB6.out).ext hx7
                  have hLM := (LabAt.of_box HBE6.out).ext hx7
                  have HLY := Lib.hid hLY
                  have HLM := Lib.hid hLM
                  have HX7 : Hid (Ext wr w7) := HX6.out.trans hx7
                  obtain ⟨hv1, hv2, hv3, hv4, hv5, hv6, hv7, hv8, _, _⟩ := HVY.out
                  obtain ⟨dk, hdk⟩ := Int.eq_ofNat_of_zero_le hv1
                  have hdk2 : diskN ls y = dk := by unfold diskN; rw [hdk]; rfl
                  have a0 := hLY.cell0 0 (v := encU (ldN ls y).1.array) rfl
                  have a1 := hLY.cell0 1 (v := .int .i64 dk) (by rw [← hdk]; rfl)
                  have a2 := hLY.cell0 2 (v := .int .u64 (genN ls y : Nat)) rfl
                  have m0 := hLM.cell0 0 (v := encU (ldN ls m).1.array) rfl
                  have m3 := hLM.cell0 3 (v := .int .u64 ((ldN ls m).1.prev.toNat : Nat)) rfl
                  have m15 := hLM.cell0 15 (v := .slice ad j cd) rfl
                  have hl1 := hLY.2
                  have hl2 := hLM.2
                  have hdkj : eqCfg (ldN ls y).1.c (ldN ls m).1.c = true → dk < j := fun h => by
                    rw [eqCfg_iff] at h
                    have e := HDE.out
                    unfold disksN at e
                    rw [h, hdk] at hv2
                    omega
                  have hkin : eqN ls y m = true → kinN ls m y = true := eqN_kin
                  have HSTEP : Hid (El.stepA (genN ls) (diskN ls) (curN ls m) (oldN ls m) A y = if curN ls m y || oldN ls m y then (if A.getD dk (-1) < 0 ∨ genN ls (A.getD dk (-1)).toNat < genN ls y then A.set dk y else A) else A) := by show _ = _; unfold El.stepA; rw [hdk2]
                  have hcur : curN ls m y = (!((ldN ls m).2.getD dk false) && eqN ls y m) := by unfold curN deadL; rw [hdk2]
                  have hold : oldN ls m y = (!((ldN ls m).2.getD dk false) && (kinN ls m y && (genN ls y == (ldN ls m).1.prev.toNat))) := by unfold oldN deadL; rw [hdk2]
                  have hkd : kinN ls m y = ((un (ldN ls y).1.array == un (ldN ls m).1.array) && eqCfg (ldN ls y).1.c (ldN ls m).1.c) := rfl
                  have HCQ := Lib.hid (run_eq_cfg (ldN ls y).1.c (ldN ls m).1.c)
                  obtain ⟨x1, h1⟩ : ∃ z, (un (ldN ls y).1.array == un (ldN ls m).1.array) = z := ⟨_, rfl⟩
                  have n1 : (un (ldN ls y).1.array != un (ldN ls m).1.array) = !x1 := by rw [bne, h1]
                  rw [h1] at hkd
                  generalize eqCfg (ldN ls y).1.c (ldN ls m).1.c = x2 at *
                  obtain ⟨dd, hdd⟩ : ∃ z, (ldN ls m).2.getD dk false = z := ⟨_, rfl⟩
                  have HDD := Lib.hid hdd
                  rw [hdd] at hcur hold
                  obtain ⟨pg, hpg⟩ : ∃ z, (genN ls y == (ldN ls m).1.prev.toNat) = z := ⟨_, rfl⟩
                  have hpi : ((genN ls y : Int) == ((ldN ls m).1.prev.toNat : Int)) = pg := by
                    rw [← hpg, Bool.eq_iff_iff, beq_iff_eq, beq_iff_eq]; omega
                  have hpn : ((genN ls y : Int) != ((ldN ls m).1.prev.toNat : Int)) = !pg := by rw [bne, hpi]
                  rw [hpg] at hold
                  generalize kinN ls m y = kn at *
                  generalize curN ls m y = cu at *
                  generalize oldN ls m y = od at *
                  generalize eqN ls y m = E at *
                  generalize El.stepA (genN ls) (diskN ls) (curN ls m) (oldN ls m) A y = A2 at *
                  have hno : (cu || od) = false → A2 = A := fun h => by rw [HSTEP.out, h]; rfl
                  have hyes : (cu || od) = true → A2 = if A.getD dk (-1) < 0 ∨ genN ls (A.getD dk (-1)).toNat < genN ls y then A.set dk y else A := fun h => by rw [HSTEP.out, if_pos h]
                  have hcase : x1 = false ∧ (cu || od) = false ∨ x1 = true ∧ x2 = false ∧ (cu || od) = false ∨ x1 = true ∧ x2 = true ∧ (dd = true ∧ (cu || od) = false ∨ dd = false ∧ (E = true ∧ (cu || od) = true ∨ E = false ∧ (pg = false ∧ (cu || od) = false ∨ pg = true ∧ (cu || od) = true))) := by
                    rw [hcur, hold, hkd]
                    cases E with
                    | true =>
                      have := hkin rfl
                      rw [hkd] at this
                      cases x1 <;> cases x2 <;> cases dd <;> simp at this ⊢
                    | false => cases x1 <;> cases x2 <;> cases dd <;> cases pg <;> simp
                  have HNOP := Lib.hid hno
                  have HYES := Lib.hid hyes
                  have HDKJ := Lib.hid hdkj
                  clear hno hyes hdkj hcur hold hkd hkin h1 hpi hpg hdd HSTEP hdk hdk2 hv1 hv2 hv3 hv4 hv5 hv6 hv7 hv8 hLY hLM hx7
                  have hdj2 : (cu || od) = true → dk < j := fun h => HDKJ.out (by
                    rcases hcase with ⟨_, hz⟩ | ⟨_, _, hz⟩ | ⟨_, e, _⟩
                    · rw [hz] at h; cases h
                    · rw [hz] at h; cases h
                    · exact e)
                  have HDJ2 := Lib.hid hdj2
                  clear hdj2
                  obtain ⟨z, hzz⟩ : ∃ z, (cu || od) = z := ⟨_, rfl⟩
                  rw [hzz] at hcase HNOP HYES HDJ2
                  clear hzz
                  go_upto_region 24 with fail
                  go_cut [110] (fun s110 wx => s110 = .bool (!z) ∧ wx = w7)
                  case first =>
                    have hcq := HCQ.out
                    rcases hcase with ⟨rfl, rfl⟩ | ⟨rfl, rfl, rfl⟩ | ⟨rfl, rfl, hcase⟩
                    · go_wp2_with fail
                      go_meet
                      exact ⟨rfl, rfl⟩
                    · go_wp2_with (first | (refine wpList_loadR 30 _ rfl (by rfl) rfl HLY.out.cfg ?_) | (refine wpList_loadR 30 _ rfl (by rfl) rfl HLM.out.cfg ?_))
                      go_meet
                      exact ⟨rfl, rfl⟩
                    · have hdj := HDKJ.out rfl
                      have hdI : (dk : Int) < (j : Int) := by omega
                      have hd0 : (0 : Int) ≤ (dk : Int) := by omega
                      obtain ⟨bd, od_, rfl, hbd, hcd⟩ := (HDQ.out.ext HX7.out).get dk (by rw [HDL.out]; exact hdj)
                      rw [← getD_in (d := false) (show dk < (ldN ls m).2.length by rw [HDL.out]; exact hdj), HDD.out] at hcd
                      rcases hcase with ⟨rfl, rfl⟩ | ⟨rfl, ⟨rfl, rfl⟩ | ⟨rfl, ⟨rfl, rfl⟩ | ⟨rfl, rfl⟩⟩⟩
                      all_goals
                        go_wp2_with (first | (refine wpList_loadR 30 _ rfl (by rfl) rfl HLY.out.cfg ?_) | (refine wpList_loadR 30 _ rfl (by rfl) rfl HLM.out.cfg ?_))
                        go_meet
                        exact ⟨rfl, rfl⟩
                  case rest =>
                    obtain ⟨rfl, rfl⟩ := hcut
                    clear hcase n1 hpn a0 m0 m3 m15
                    cases z with
                    | false =>
                      have HZ := Lib.hid (HNOP.out rfl)
                      go_wp2_with fail
                      go_roundw
                      case rel => exact ⟨k + 1, by omega, by go_num, by rw [HFN.out, HZ.out]; exact HO.out.ext HX7.out, HXq.out.trans HX7.out⟩
                      case measure => simp [intOf]; omega
                    | true =>
                      have hdj := HDJ2.out rfl
                      have hdI : (dk : Int) < (j : Int) := by omega
                      have hd0 : (0 : Int) ≤ (dk : Int) := by omega
                      have hz : true = true := rfl
                      have HY := Lib.hid (HYES.out hz)
                      have hO7 := HO.out.ext HX7.out
                      have hdA : dk < A.length := by rw [HFP1.out]; exact hdj
                      have hA7 := hO7.at HFP1.out.symm hdA
                      have hf7 := hO7.frees HFP1.out.symm dk
                      have hl7 : w4.heap.size < wc.heap.size := (OwnG.lt hO7 w4.heap.size (by simp [Value.ownBlock])).2
                      have hpl := HFP2.out _ (List.getElem_mem hdA)
                      rw [getD_in hdA] at HY
                      have HO8 : Hid (OwnG encI 3 (wc.drew.setCell ⟨w4.heap.size, dk, none⟩ (.int .i64 y)) w4.heap.size (.slice (some ⟨w4.heap.size, 0, none⟩) j j) (A.set dk y)) := (hO7.ext (Ext.drew wc)).put HFP1.out.symm dk (y : Int)
                      have HO7 := Lib.hid hO7
                      have HX8 : Hid (Ext w4 (wc.drew.setCell ⟨w4.heap.size, dk, none⟩ (.int .i64 y))) := Ext.setOwn ((HXq.out.trans HX7.out).trans (Ext.drew _)) (Nat.le_refl _)
                      generalize A[dk] = az at *
                      clear hz hO7 hdA
                      rcases hpl with rfl | ⟨q, hq, rfl⟩
                      · have HY2 : Hid (A2 = A.set dk y) := by show _ = _; rw [HY.out, if_pos (.inl (by decide))]
                        go_wp2_with fail
                        refine wp_region_ext [(0, true), (1, true), (2, true), (3, true), (4, true), (5, true), (6, true), (7, true), (8, true), (9, true), (10, true), (11, true)] (by kernel_rfl) (by kernel_rfl) ?_
                        iterate 12 (first
                         | (refine ext_move rfl rfl (by rfl) (by rfl) ?_; simp only [Act.put, List.setIfInBounds_toArray, List.set_cons_zero, List.set_cons_succ])
                         | (refine ext_assign rfl rfl (by rfl) (by rfl) ?_; simp only [Act.put, List.setIfInBounds_toArray, List.set_cons_zero, List.set_cons_succ])
                         | (refine ext_pick_t rfl rfl (by rfl) (by rfl) (by rfl) ?_; simp only [Act.put, List.setIfInBounds_toArray, List.set_cons_zero, List.set_cons_succ])
                         | (refine ext_pick_f rfl rfl (by rfl) (by rfl) (by rfl) ?_; simp only [Act.put, List.setIfInBounds_toArray, List.set_cons_zero, List.set_cons_succ])
                         | (apply ext_take rfl (by rfl)
                            · intro w' hS
                              have hSc := hS.cells
                              (try simp only [World.size_drew, World.cell?_drew] at hSc)
                              go_simp
                              (try simp (disch := omega) only [i64_id, u64_id, ↓IntWalk.iteOmega, Int.tdiv_eq_ediv_of_nonneg, Int.tmod_eq_emod_of_nonneg])
                              try rfl
                            simp only [Act.put, List.setIfInBounds_toArray, List.set_cons_zero, List.set_cons_succ])
                         | (refine ext_pass rfl (by rfl) ?_; simp only [Act.put, List.setIfInBounds_toArray, List.set_cons_zero, List.set_cons_succ]))
                        refine ext_nil ?_
                        go_wp2_with fail
                        go_roundw
                        case rel => exact ⟨k + 1, by omega, by go_num, by rw [HFN.out, HY2.out]; exact HO8, HX8⟩
                        case measure => simp [intOf]; omega
                      · obtain ⟨bl2, ol2, hble2, dvq, hAq, _⟩ := (((HL.out.ext HX3.out).ext HXQ3.out).ext HX7.out).at q (by rw [HN1.out]; exact hq)
                        cases hble2
                        have cq := hAq.gen
                        have hblq := hAq.2
                        have hqI : (q : Int) < (i : Int) := by omega
                        have hq0 : (0 : Int) ≤ (q : Int) := by omega
                        have hqd : decide ((q : Int) < 0) = false := by rw [decide_eq_false_iff_not]; omega
                        rw [Int.toNat_natCast] at HY
                        generalize genN ls q = Gq at *
                        generalize genN ls y = Gy at *
                        clear hAq
                        by_cases hgq : Gq < Gy
                        · have HY2 : Hid (A2 = A.set dk y) := by show _ = _; rw [HY.out, if_pos (.inr hgq)]
                          have d5 : decide ((Gq : Int) < (Gy : Int)) = true := by rw [decide_eq_true_iff]; omega
                          have d6 : decide (Gq < Gy) = true := by rw [decide_eq_true_iff]; exact hgq
                          clear hgq
                          go_wp2_with fail
                          refine wp_region_ext [(0, true), (1, true), (2, true), (3, true), (4, true), (5, true), (6, true), (7, true), (8, true), (9, true), (10, true), (11, true)] (by kernel_rfl) (by kernel_rfl) ?_
                          iterate 12 (first
                           | (refine ext_move rfl rfl (by rfl) (by rfl) ?_; simp only [Act.put, List.setIfInBounds_toArray, List.set_cons_zero, List.set_cons_succ])
                           | (refine ext_assign rfl rfl (by rfl) (by rfl) ?_; simp only [Act.put, List.setIfInBounds_toArray, List.set_cons_zero, List.set_cons_succ])
                           | (refine ext_pick_t rfl rfl (by rfl) (by rfl) (by rfl) ?_; simp only [Act.put, List.setIfInBounds_toArray, List.set_cons_zero, List.set_cons_succ])
                           | (refine ext_pick_f rfl rfl (by rfl) (by rfl) (by rfl) ?_; simp only [Act.put, List.setIfInBounds_toArray, List.set_cons_zero, List.set_cons_succ])
                           | (apply ext_take rfl (by rfl)
                              · intro w' hS
                                have hSc := hS.cells
                                (try simp only [World.size_drew, World.cell?_drew] at hSc)
                                go_simp
                                (try simp (disch := omega) only [i64_id, u64_id, ↓IntWalk.iteOmega, Int.tdiv_eq_ediv_of_nonneg, Int.tmod_eq_emod_of_nonneg])
                                try rfl
                              simp only [Act.put, List.setIfInBounds_toArray, List.set_cons_zero, List.set_cons_succ])
                           | (refine ext_pass rfl (by rfl) ?_; simp only [Act.put, List.setIfInBounds_toArray, List.set_cons_zero, List.set_cons_succ]))
                          refine ext_nil ?_
                          go_wp2_with fail
                          go_roundw
                          case rel => exact ⟨k + 1, by omega, by go_num, by rw [HFN.out, HY2.out]; exact HO8, HX8⟩
                          case measure => simp [intOf]; omega
                        · have HY2 : Hid (A2 = A) := by show _ = _; rw [HY.out, if_neg (by omega)]
                          have d5 : decide ((Gq : Int) < (Gy : Int)) = false := by rw [decide_eq_false_iff_not]; omega
                          have d6 : decide (Gq < Gy) = false := by rw [decide_eq_false_iff_not]; exact hgq
                          clear hgq
                          go_wp2_with fail
                          refine wp_region_ext [(0, true), (1, true), (2, true), (3, true), (4, true), (5, true), (6, true), (7, true), (8, true), (9, true), (10, true), (11, true)] (by kernel_rfl) (by kernel_rfl) ?_
                          iterate 12 (first
                           | (refine ext_move rfl rfl (by rfl) (by rfl) ?_; simp only [Act.put, List.setIfInBounds_toArray, List.set_cons_zero, List.set_cons_succ])
                           | (refine ext_assign rfl rfl (by rfl) (by rfl) ?_; simp only [Act.put, List.setIfInBounds_toArray, List.set_cons_zero, List.set_cons_succ])
                           | (refine ext_pick_t rfl rfl (by rfl) (by rfl) (by rfl) ?_; simp only [Act.put, List.setIfInBounds_toArray, List.set_cons_zero, List.set_cons_succ])
                           | (refine ext_pick_f rfl rfl (by rfl) (by rfl) (by rfl) ?_; simp only [Act.put, List.setIfInBounds_toArray, List.set_cons_zero, List.set_cons_succ])
                           | (apply ext_take rfl (by rfl)
                              · intro w' hS
                                have hSc := hS.cells
                                (try simp only [World.size_drew, World.cell?_drew] at hSc)
                                go_simp
                                (try simp (disch := omega) only [i64_id, u64_id, ↓IntWalk.iteOmega, Int.tdiv_eq_ediv_of_nonneg, Int.tmod_eq_emod_of_nonneg])
                                try rfl
                              simp only [Act.put, List.setIfInBounds_toArray, List.set_cons_zero, List.set_cons_succ])
                           | (refine ext_pass rfl (by rfl) ?_; simp only [Act.put, List.setIfInBounds_toArray, List.set_cons_zero, List.set_cons_succ]))
                          refine ext_nil ?_
                          go_wp2_with fail
                          go_roundw
                          case rel => exact ⟨k + 1, by omega, by go_num, by rw [HFN.out, HY2.out]; exact HO7.out.ext (Ext.drew _), (HXq.out.trans HX7.out).trans (Ext.drew _)⟩
                          case measure => simp [intOf]; omega
                · have hkc2 : k = c := by omega
                  subst hkc2
                  have hin4 : ¬ ((k : Int) < (k : Int)) := by omega
                  rw [show cs.take k = cs by rw [← HCC.out, List.take_length]] at HO hfp
                  rw [show foldP ls m j cs = atE ls rd m from HFM.out] at HO hfp
                  have hcle := cntN_le (atE ls rd m)
                  have HES := Lib.hid (errE_some HLEN.out HBE.out)
                  have HCT := Lib.hid (fun (w' : World) (e : Ext wr w') => count_any _ (atE ls rd m) w' (by rw [hfp.1]; omega) (HO.out.slice.ext e))
                  rw [hfp.1] at hcle
                  obtain ⟨N, hN⟩ : ∃ N, cntN (atE ls rd m) = N := ⟨_, rfl⟩
                  rw [hN] at HES HCT hcle
                  have HFL := Lib.hid hfp.1
                  clear hN hfp
                  go_wp2_with fail
                  go_at_call 20
                  refine (HCT.out _ (Ext.refl _)).mono ?_
                  rintro e w8 ⟨rfl, rfl⟩
                  have HXW : Hid (Ext w wr) := HXW4.out.trans HXq.out
                  have HBW := Lib.hid (HB3.out.ext (HX4.out.trans HXq.out))
                  by_cases h3 : 3 < N
                  · have d5 : decide ((3 : Int) < (N : Int)) = true := by rw [decide_eq_true_iff]; omega
                    have d6 : decide (3 < N) = true := by rw [decide_eq_true_iff]; exact h3
                    have HER : Hid (errE ls rd = 12) := by show _ = _; rw [HES.out, if_pos h3]
                    have hbad := bad_lab (ls := ls) (rd := rd) (by rw [HER.out]; decide)
                    have HLB := Lib.hid hbad.1
                    have HPL := Lib.hid hbad.2
                    clear hbad h3
                    go_wp2_with (refine wpList_store_lab (w0 := w) (l := ld0.1) (d := .slice none 0 0) _ _ rfl (by rfl) rfl rfl HBW.out rfl rfl HXW.out (Nat.le_refl _) ?_; intro w9 hx9 hb9 hs9)
                    have hld := lab_result hb9
                    refine bodyPost_ret (results_cell_tmp2 rfl _ _ rfl hld) rfl ⟨.slice none 0 0, .slice none 0 0, by rw [HER.out, HLB.out]; rfl, by rw [HLB.out]; exact SliceAt.nil, by rw [HPL.out]; exact SliceAt.nil, hx9⟩
                  · have d5 : decide ((3 : Int) < (N : Int)) = false := by rw [decide_eq_false_iff_not]; omega
                    have d6 : decide (3 < N) = false := by rw [decide_eq_false_iff_not]; exact h3
                    have HER : Hid (errE ls rd = 0) := by show _ = _; rw [HES.out, if_neg h3]
                    have hgood := good_lab HER.out HBE.out
                    have HLB := Lib.hid hgood.1
                    have HPL := Lib.hid hgood.2
                    have hbe := HB4.out.ext HXq.out
                    have HBEL := Lib.hid hbe
                    have m15 := hbe.cell 15 (v := .slice ad j cd) rfl
                    have hl15 := hbe.lt
                    have HDW := Lib.hid (HD.out.ext (HX4.out.trans HXq.out))
                    clear hgood h3 hbe
                    go_wp2_with fail
                    go_at_call 25
                    refine (cloneB_any _ (ldN ls m).2 wr (hdl m) HDW.out).mono ?_
                    rintro e w8 ⟨v8, rfl, ho8, hx8⟩
                    obtain ⟨a8, c8, rfl⟩ := ho8.shape
                    have hbe8 := HBEL.out.ext hx8
                    have hc158 := hbe8.cell 15 (v := .slice ad j cd) rfl
                    have hf158 := hbe8.free 15
                    have hl158 := hbe8.lt
                    have HXW8 : Hid (Ext w w8) := HXW.out.trans hx8
                    have hle3 : w.heap.size < w3.heap.size := Nat.lt_of_lt_of_le HB3.out.lt (Nat.le_refl _)
                    have HBS : Hid (BoxAt (w8.setCell ⟨w3.heap.size, 15, none⟩ (.slice a8 (ldN ls m).2.length c8)) w3.heap.size (labA (ldN ls m).1 (.slice a8 (ldN ls m).2.length c8)) 32) := hbe8.set 15 (.slice a8 (ldN ls m).2.length c8)
                    have HBR : Hid (BoxAt (w8.setCell ⟨w3.heap.size, 15, none⟩ (.slice a8 (ldN ls m).2.length c8)) w.heap.size zeroA 32) := (HBW.out.ext hx8).set_off (Nat.ne_of_lt hle3) 15 _
                    have HXS : Hid (Ext w (w8.setCell ⟨w3.heap.size, 15, none⟩ (.slice a8 (ldN ls m).2.length c8))) := Ext.setOwn HXW8.out (Nat.le_of_lt hle3)
                    have hsz34 : w3.heap.size < w4.heap.size := hg10
                    have hsz4 : w4.heap.size ≤ wr.heap.size := HXq.out.size
                    have HOS : Hid (OwnG encI 3 (w8.setCell ⟨w3.heap.size, 15, none⟩ (.slice a8 (ldN ls m).2.length c8)) w4.heap.size (.slice (some ⟨w4.heap.size, 0, none⟩) j j) (atE ls rd m)) := (HO.out.ext hx8).off (fun e => by simp [Value.ownBlock] at e; omega) 15 _
                    have HDS : Hid (OwnG Value.bool 4 (w8.setCell ⟨w3.heap.size, 15, none⟩ (.slice a8 (ldN ls m).2.length c8)) wr.heap.size (.slice a8 (ldN ls m).2.length c8) (ldN ls m).2) := ho8.off (fun e => by have := (OwnG.lt ho8 _ e).1; omega) 15 _
                    clear ho8 hx8 hbe8 m15 hl15
                    go_wp2_with (first | (refine wpList_loadR 32 _ rfl (by rfl) rfl (LabAt.of_box HBS.out).load ?_) | (refine wpList_store_lab2 (w0 := w) (l := (ldN ls m).1) (d := .slice a8 (ldN ls m).2.length c8) _ _ rfl (by rfl) rfl rfl HBR.out rfl rfl HXS.out (Nat.le_refl _) ?_; intro w9 hx9 hb9 ho9))
                    have hld := lab_result hb9
                    refine bodyPost_ret (results_cell_tmp2 rfl _ _ rfl hld) rfl ⟨.slice a8 (ldN ls m).2.length c8, .slice (some ⟨w4.heap.size, 0, none⟩) j j, by rw [HER.out, HLB.out]; rfl, by rw [HLB.out]; exact (HDS.out.other ho9 (by omega)).slice, by rw [HPL.out]; exact (HOS.out.other ho9 (by omega)).slice, hx9⟩
  · have d1 : ((ls.length : Int) == (rd.length : Int)) = false := by rw [beq_eq_false_iff_ne]; omega
    have d2 : ((ls.length : Int) != (rd.length : Int)) = true := by rw [bne, d1]; rfl
    have HER : Hid (errE ls rd = 1) := by show _ = _; unfold errE; rw [if_pos hlen]
    have hbad := bad_lab (ls := ls) (rd := rd) (by rw [HER.out]; decide)
    have HLB := Lib.hid hbad.1
    have HPL := Lib.hid hbad.2
    clear hbad
    clear hlen
    go_enter Try.func11, Try.ntmps11
    go_wp2_with (refine wpList_store_lab (w0 := w) (l := ld0.1) (d := .slice none 0 0) _ _ rfl (by rfl) rfl rfl HB1.out rfl rfl HE1.out (Nat.le_refl _) ?_; intro w2 hx2 hb2 hs2)
    have hld := lab_result hb2
    refine bodyPost_ret (results_cell_tmp2 rfl _ _ rfl hld) rfl ⟨.slice none 0 0, .slice none 0 0, by rw [HER.out, HLB.out]; rfl, by rw [HLB.out]; exact SliceAt.nil, by rw [HPL.out]; exact SliceAt.nil, hx2⟩
end Go.Proofs.Ytpmbbeflgifgaaa
