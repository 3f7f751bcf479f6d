/-
  Chapter 31 (election): choose.
-/
import Derived.Test.YtpmbbeflgifgaaaElG
namespace Go.Proofs.Ytpmbbeflgifgaaa
open Go.RowKit
set_option linter.unusedVariables false

theorem filter_next {α : Type} {l : List α} {f : α → Bool} {i : Nat} (h : i < l.length) : (l.take (i + 1)).filter f = if f l[i] then (l.take i).filter f ++ [l[i]] else (l.take i).filter f := by
  rw [List.take_succ_eq_append_getElem h, List.filter_append]
  cases hf : f l[i] <;> simp [hf]
/-- an own row of slices, laid since w0, that read as groups in w0 -/
def AmongAt (w0 w : World) (v : Value) (gs : List (List Nat)) : Prop := ∃ vs, OwnG id 56 w w0.heap.size v vs ∧ vs.length = gs.length ∧ ∀ i (h1 : i < vs.length) (h2 : i < gs.length), SliceAt encN w0 vs[i] gs[i]
theorem AmongAt.rows {w0 w : World} {v : Value} {gs : List (List Nat)} (h : AmongAt w0 w v gs) (e : Ext w0 w) : RowsAt w v gs := by
  obtain ⟨vs, h1, h2, h3⟩ := h
  exact ⟨vs, h1.slice, h2, fun i a b => (h3 i a b).ext e⟩
/-- the best of a list, in Go's order -/
def bestF (disk : Nat → Nat) (b : List Nat) (t : List (List Nat)) : List Nat := t.foldl (fun b s => if El.betterG disk s b then s else b) b
theorem bestF_next {disk : Nat → Nat} {b : List Nat} {t : List (List Nat)} {j : Nat} (h : j < t.length) : bestF disk b (t.take (j + 1)) = if El.betterG disk t[j] (bestF disk b (t.take j)) then t[j] else bestF disk b (t.take j) := by
  unfold bestF
  rw [List.take_succ_eq_append_getElem h, List.foldl_append]; rfl
theorem pick_bestF {disk : Nat → Nat} {l : List (List Nat)} (h : 0 < l.length) : El.pickG disk l = bestF disk l[0] (l.drop 1) := by
  cases l with
  | nil => simp at h
  | cons b t => rfl
/-- groups of places of labels -/
def GroupsOk (ls : List LD) (gs : List (List Nat)) : Prop := ∀ g, g ∈ gs → 0 < g.length ∧ g.length ≤ 1000 ∧ Places ls g
theorem bestF_mem {disk : Nat → Nat} {b : List Nat} {gs : List (List Nat)} (hb : b ∈ gs) : ∀ {t : List (List Nat)}, (∀ s, s ∈ t → s ∈ gs) → bestF disk b t ∈ gs := by
  intro t ht
  induction t generalizing b with
  | nil => exact hb
  | cons s t ih =>
    show bestF disk (if El.betterG disk s b then s else b) t ∈ gs
    refine ih ?_ fun x hx => ht x (by simp [hx])
    split
    · exact ht s (by simp)
    · exact hb
theorem among_sub {disk : Nat → Nat} {dead : Nat → List Bool} {gs : List (List Nat)} : ∀ s, s ∈ El.amongG disk dead gs → s ∈ gs := fun s hs => by
  unfold El.amongG at hs
  split at hs
  · exact hs
  · exact (List.mem_filter.1 hs).1
theorem among_pos {disk : Nat → Nat} {dead : Nat → List Bool} {gs : List (List Nat)} (h : 0 < gs.length) : 0 < (El.amongG disk dead gs).length := by
  unfold El.amongG
  split
  · exact h
  · rename_i hne; exact List.length_pos_iff.2 hne

/-- what is left of a list of rows -/
def TailRel (w : World) (v : Value) (n : Nat) (l : List Value) : Prop := ∃ A C, v = .slice A n C ∧ SliceAt id w (.slice A n C) l
set_option maxRecDepth 100000 in
set_option maxHeartbeats 4000000 in
theorem choose_any (vl vc : Value) (ls : List LD) (cs : List Nat) (w : World) (hn : ls.length ≤ 1000) (hcs : cs.length ≤ 1000) (hpc : Places ls cs) (hdl : ∀ i, (ldN ls i).2.length ≤ 100000) (hne : 0 < (gOf ls (maxG ls cs) cs).length)
    (h : LabsAt w vl ls) (hc : SliceAt encN w vc cs) :
    Calls Try.prog 23 #[vl, vc] w (NatEnd w (El.chooseF (diskN ls) (deadL ls) (gOf ls (maxG ls cs) cs))) := by
  obtain ⟨j0, hJ, hJ0, hJ1, hJ2⟩ := info_parts infoS
  obtain ⟨al, cl, rfl⟩ := h.shape
  obtain ⟨ad, cap, rfl⟩ := hc.shape
  have HL := Lib.hid h
  have hsd := sides_any _ _ ls cs w hn hcs (fun i hi => (hpc i hi).1) hdl h hc
  have hok := gOf_ok ls (maxG ls cs) cs cs.length (Nat.le_refl _)
  rw [List.take_length] at hok
  have HOK : Hid (GroupsOk ls (gOf ls (maxG ls cs) cs)) := fun g hg => ⟨(hok.2 g hg).1, by have := (hok.2 g hg).2.1; omega, fun j hj => hpc j ((hok.2 g hg).2.2 j hj)⟩
  have hgl : (gOf ls (maxG ls cs) cs).length ≤ 1000 := by omega
  clear hok hpc h
  generalize gOf ls (maxG ls cs) cs = gs at *
  have HSD := Lib.hid hsd
  clear hsd hc
  obtain ⟨c, hcc⟩ : ∃ c, cs.length = c := ⟨_, rfl⟩
  rw [hcc] at HSD ⊢
  clear hcc hcs
  go_enter Try.func23, Try.ntmps23
  go_wp2_with fail
  go_at_call 31
  refine HSD.out.mono ?_
  rintro e w2 ⟨va, rfl, hra, hx2⟩
  obtain ⟨aa, ca, rfl⟩ := hra.shape
  have HX2 := Lib.hid hx2
  have HRA := Lib.hid hra
  obtain ⟨m, hm⟩ : ∃ m, gs.length = m := ⟨_, rfl⟩
  have HM := Lib.hid hm
  rw [hm] at HRA hgl hne ⊢
  clear hra hx2 hm
  go_wp2_with fail
  go_loopw [6, 17] (fun vt it wr => ∃ i : Nat, i ≤ m ∧ it = .int .i64 i ∧ Hid (AmongAt w2 wr vt ((gs.take i).filter (El.outG (diskN ls) (deadL ls) gs))) ∧ Hid (Ext w2 wr)) (fun _ it _ => m - (intOf it).toNat)
  case atStart => exact ⟨0, Nat.zero_le _, rfl, Lib.hid ⟨[], OwnG.nil, rfl, fun i h => absurd h (by simp)⟩, Lib.hid (Ext.refl _)⟩
  case round =>
    obtain ⟨i, hi, rfl, HA, HX⟩ := hrel
    by_cases hlt : i < m
    · have hin : (i : Int) < (m : Int) := by omega
      have hil : i < gs.length := by rw [HM.out]; exact hlt
      obtain ⟨ba, oa, rfl, hba, rv, hcr0, hro⟩ := HRA.out.get i hil
      have hcr := (HX.out.cell _ _ hba).trans hcr0
      have hbw := Nat.lt_of_lt_of_le hba HX.out.size
      clear hcr0
      obtain ⟨hq0, hq1, hq2⟩ := HOK.out _ (List.getElem_mem hil)
      have HC := Lib.hid (outlives_any _ _ _ ls gs gs[i] wr hn (by rw [HM.out]; exact hgl) HOK.out hq0 hq2 hdl (HL.out.ext (HX2.out.trans HX.out)) (HRA.out.ext HX.out) (hro.ext HX.out))
      have HFN := Lib.hid (filter_next (f := El.outG (diskN ls) (deadL ls) gs) hil)
      have hlen : ((gs.take i).filter (El.outG (diskN ls) (deadL ls) gs)).length ≤ 1000 := Nat.le_trans (List.length_filter_le _ _) (by rw [List.length_take]; omega)
      obtain ⟨vs, ho, hvl, hvr⟩ := HA.out
      obtain ⟨at_, ct, rfl⟩ := ho.shape
      obtain ⟨ar, cr, rfl⟩ := hro.shape
      have HRO := Lib.hid hro
      have HO := Lib.hid ho
      have HVR := Lib.hid hvr
      generalize gs[i] = s at *
      obtain ⟨z, hz⟩ : ∃ z, s.length = z := ⟨_, rfl⟩
      have HZ := Lib.hid hz
      rw [hz] at HC HRO hcr
      generalize El.outG (diskN ls) (deadL ls) gs s = u at *
      generalize (gs.take i).filter (El.outG (diskN ls) (deadL ls) gs) = L at *
      have hvl2 : vs.length ≤ 1000 := by omega
      obtain ⟨q, hq⟩ : ∃ q, vs.length = q := ⟨_, rfl⟩
      have HQ := Lib.hid hq
      have HVL := Lib.hid hvl
      rw [hq] at hvl2 HO HA ⊢
      clear hq0 hq1 hq2 hro ho hvl hvr hlen hq hz
      go_wp2_with fail
      go_at_call 32
      refine HC.out.mono ?_
      rintro e w3 ⟨rfl, hb3⟩
      have HB3 := Lib.hid hb3
      clear hb3
      cases u with
      | true =>
        go_wp2_with (at_builtin; refine Classical.byContradiction (fun hN => ?_))
        refine hN ?_
        clear hN
        have e1 : Ext w3 (w3.alloc (.cells #[.slice ar z cr] 56)) := Ext.alloc _ _
        have hown := (HO.out.ext HB3.out).ext e1
        have hsz := (HX.out.trans HB3.out).size
        refine wpList_append_one rfl _ _ _ rfl w2.heap.size 56 j0 (.slice none 0 0) 24 Try.underlying54 hJ hJ0 hJ1 hJ2 rfl _ _ _ rfl hown _ (.slice ar z cr) rfl rfl (cell_new1 _ _ _) (by rw [HQ.out]; unfold maxLen; omega) (by rw [HQ.out]; omega) (by simp; omega) ?_
        intro v6 w6 ho6 hg6 _
        have HX6 : Hid (Ext w2 w6) := ((HX.out.trans HB3.out).trans e1).grown hg6 (by simp; omega) (fun q hq => (hown.lt q hq).1)
        have HA6 : Hid (AmongAt w2 w6 v6 (L ++ [s])) := by
          refine ⟨vs ++ [.slice ar z cr], OwnG.snoc (enc := id) (x := .slice ar z cr) ho6, by rw [List.length_append, List.length_append, HVL.out]; rfl, fun j a b => ?_⟩
          by_cases hj : j < vs.length
          · have hj2 : j < L.length := by rw [← HVL.out]; exact hj
            rw [List.getElem_append_left hj, List.getElem_append_left hj2]
            exact HVR.out j hj hj2
          · have hj3 : j = vs.length := by rw [List.length_append, List.length_singleton] at a; omega
            subst hj3
            rw [List.getElem_append_right (Nat.le_refl _), List.getElem_append_right (by rw [HVL.out]; exact Nat.le_refl _)]
            simp only [HVL.out, Nat.sub_self, List.getElem_singleton]
            exact HRO.out
        clear ho6 hg6 hown e1
        go_wp2
        go_roundw
        case rel => exact ⟨i + 1, by omega, by go_num, by rw [HFN.out]; exact HA6, HX6⟩
        case measure => simp [intOf]; omega
      | false =>
        go_wp2_with fail
        go_roundw
        case rel => exact ⟨i + 1, by omega, by go_num, by rw [HFN.out]; exact ⟨vs, HO.out.ext HB3.out, HVL.out, HVR.out⟩, HX.out.trans HB3.out⟩
        case measure => simp [intOf]; omega
    · have him : i = m := by omega
      subst him
      have hin2 : ¬ ((i : Int) < (i : Int)) := by omega
      rw [show gs.take i = gs by rw [← HM.out, List.take_length]] at HA
      have HR := Lib.hid (HA.out.rows HX.out)
      have HAM : Hid (El.amongG (diskN ls) (deadL ls) gs = if gs.filter (El.outG (diskN ls) (deadL ls) gs) = [] then gs else gs.filter (El.outG (diskN ls) (deadL ls) gs)) := rfl
      have HCF : Hid (El.chooseF (diskN ls) (deadL ls) gs = (El.pickG (diskN ls) (El.amongG (diskN ls) (deadL ls) gs)).headD 0) := rfl
      have HSUB := Lib.hid (among_sub (disk := diskN ls) (dead := deadL ls) (gs := gs))
      have hpos := among_pos (disk := diskN ls) (dead := deadL ls) (show 0 < gs.length by rw [HM.out]; exact hne)
      have hGl : (El.amongG (diskN ls) (deadL ls) gs).length ≤ 1000 := by
        unfold El.amongG
        split
        · rw [HM.out]; exact hgl
        · exact Nat.le_trans (List.length_filter_le _ _) (by rw [HM.out]; exact hgl)
      obtain ⟨af, cf, rfl⟩ := HR.out.shape
      obtain ⟨q, hq⟩ : ∃ q, (gs.filter (El.outG (diskN ls) (deadL ls) gs)).length = q := ⟨_, rfl⟩
      have hq0 : q = 0 → gs.filter (El.outG (diskN ls) (deadL ls) gs) = [] := fun e => List.eq_nil_of_length_eq_zero (by rw [hq, e])
      have hq1 : q ≠ 0 → ¬ gs.filter (El.outG (diskN ls) (deadL ls) gs) = [] := fun e h => e (by rw [← hq, h]; rfl)
      have HQ0 := Lib.hid hq0
      have HQ1 := Lib.hid hq1
      rw [hq] at HR ⊢
      generalize gs.filter (El.outG (diskN ls) (deadL ls) gs) = F at *
      generalize El.amongG (diskN ls) (deadL ls) gs = G at *
      have HHX := Lib.hid (HX2.out.trans HX.out)
      clear HA hq hq0 hq1
      go_upto_if 32 with fail
      go_cut [6] (fun s6 wx => Hid (RowsAt wx s6 G) ∧ wx = wr)
      case first =>
        by_cases hz : q = 0
        · have hd : ((q : Int) == 0) = true := by rw [hz]; rfl
          have HG : Hid (G = gs) := by show _ = _; rw [HAM.out, if_pos (HQ0.out hz)]
          clear hz
          go_wp2_with fail
          go_meet
          exact ⟨by rw [HG.out]; exact HRA.out.ext HX.out, rfl⟩
        · have hd : ((q : Int) == 0) = false := by rw [beq_eq_false_iff_ne]; omega
          have HG : Hid (G = F) := by show _ = _; rw [HAM.out, if_neg (HQ1.out hz)]
          clear hz
          go_wp2_with fail
          go_meet
          exact ⟨by rw [HG.out]; exact HR.out, rfl⟩
      case rest =>
        obtain ⟨HRG, rfl⟩ := hcut
        obtain ⟨ag, cg, rfl⟩ := HRG.out.shape
        obtain ⟨p1, hp⟩ : ∃ p1, G.length = p1 + 1 := ⟨G.length - 1, by omega⟩
        have HGP := Lib.hid hp
        have HPB := Lib.hid (pick_bestF (disk := diskN ls) hpos)
        have hg0 := HSUB.out _ (List.getElem_mem hpos)
        obtain ⟨bg, og, rfl, hbg, bv0, hbc, hbs⟩ := HRG.out.get 0 hpos
        rw [Nat.add_zero] at hbc
        obtain ⟨vsg, hs1, hs2, hs3⟩ := HRG.out
        have hs1' := hs1
        rw [hp] at hs1' hs2
        obtain ⟨A, hA, HC⟩ := hs1'.cutA 1 (p1 + 1) (by omega) (by rw [hs2]; exact Nat.le_refl _)
        rw [Nat.add_sub_cancel] at HC
        have HC := Lib.hid HC
        have HS3 : Hid (∀ j (h1 : j + 1 < vsg.length) (h2 : j + 1 < G.length), SliceAt encN wc vsg[j + 1] G[j + 1]) := fun j a b => hs3 (j + 1) a b
        have HGT : Hid (∀ j (h1 : j + 1 < G.length) (h2 : j < (G.drop 1).length), (G.drop 1)[j] = G[j + 1]) := fun j a b => by rw [List.getElem_drop]; congr 1; omega
        have HVS : Hid (vsg.length = p1 + 1) := hs2
        have hpl : p1 ≤ 1000 := by omega
        rw [hp]
        have hp0 : (0 : Int) < ((p1 + 1 : Nat) : Int) := by omega
        obtain ⟨ab, cb, rfl⟩ := hbs.shape
        have hG0 := HOK.out _ hg0
        have HG0 := Lib.hid hg0
        have HBS := Lib.hid hbs
        generalize G[0] = b0 at *
        obtain ⟨z0, hz0⟩ : ∃ z0, b0.length = z0 := ⟨_, rfl⟩
        rw [hz0] at HBS hbc
        clear hs1 hs2 hs3 hs1' hp hbs hg0
        have HHA := Lib.hid hA
        have HDL : Hid ((G.drop 1).length = p1) := by show _ = _; rw [List.length_drop, HGP.out]; omega
        have HB1 : Hid (∀ t : List (List Nat), (∀ s, s ∈ t → s ∈ gs) → bestF (diskN ls) b0 t ∈ gs) := fun t ht => bestF_mem HG0.out ht
        clear hA
        go_upto_region 12 with fail
        go_cut [38, 39, 40] (fun s38 s39 s40 wx => TailRel wx s38 p1 ((vsg.drop 1).take p1) ∧ s39 = .int .i64 p1 ∧ s40 = .int .i64 0 ∧ wx = wc)
        case first =>
          by_cases hc1 : cg = 1
          · have hh := HHA.out
            rw [if_pos hc1] at hh
            subst hh
            subst hc1
            go_wp2_with fail
            go_meet
            exact ⟨⟨_, _, rfl, HC.out⟩, rfl, rfl, rfl⟩
          · have hh := HHA.out
            rw [if_neg hc1] at hh
            subst hh
            go_wp2_with fail
            go_meet
            exact ⟨⟨_, _, rfl, HC.out⟩, rfl, rfl, rfl⟩
        case rest =>
          obtain ⟨⟨A2, C2, rfl, hT⟩, rfl, rfl, rfl⟩ := hcut
          have HT := Lib.hid hT
          clear hT
          go_wp2_with fail
          go_loopw [9, 40] (fun bt it wr => ∃ j : Nat, j ≤ p1 ∧ it = .int .i64 j ∧ Hid (SliceAt encN wr bt (bestF (diskN ls) b0 ((G.drop 1).take j))) ∧ Hid (Ext wc wr)) (fun _ it _ => p1 - (intOf it).toNat)
          case atStart => exact ⟨0, Nat.zero_le _, rfl, by rw [hz0] at *; exact HBS, Lib.hid (Ext.refl _)⟩
          case round =>
            obtain ⟨j, hj, rfl, HBV, HX3⟩ := hrel
            by_cases hlt2 : j < p1
            · have hin3 : (j : Int) < (p1 : Int) := by omega
              have hjl : j < (G.drop 1).length := by rw [HDL.out]; exact hlt2
              have hjg : j + 1 < G.length := by rw [HGP.out]; omega
              have hjv : j + 1 < vsg.length := by rw [HVS.out]; omega
              have hjt : j < ((vsg.drop 1).take p1).length := by rw [List.length_take, List.length_drop, HVS.out]; omega
              have hev : ((vsg.drop 1).take p1)[j] = vsg[j + 1] := by rw [List.getElem_take, List.getElem_drop]; congr 1; omega
              have HN := Lib.hid (bestF_next (disk := diskN ls) (b := b0) hjl)
              have hbm := HB1.out ((G.drop 1).take j) fun s hs => HSUB.out s (List.mem_of_mem_drop (List.mem_of_mem_take hs))
              have hsm := HSUB.out _ (List.getElem_mem hjg)
              rw [HGT.out j hjg hjl] at HN
              have hss := HS3.out j hjv hjg
              obtain ⟨bt, ot, rfl, hbt, hct⟩ := (HT.out.ext HX3.out).get j hjt
              rw [hev] at hct
              have hct2 : wr.cell? ⟨bt, ot + j, none⟩ = some vsg[j + 1] := hct
              have hnx : bestF (diskN ls) b0 ((G.drop 1).take (j + 1)) = bestF (diskN ls) b0 ((G.drop 1).take (j + 1)) := rfl
              generalize vsg[j + 1] = sv at *
              generalize G[j + 1] = S at *
              generalize bestF (diskN ls) b0 ((G.drop 1).take j) = Bb at *
              obtain ⟨hb0, hb1, hb2⟩ := HOK.out _ hbm
              obtain ⟨hs0, hs1, hs2⟩ := HOK.out _ hsm
              obtain ⟨asv, csv, rfl⟩ := hss.shape
              obtain ⟨abv, cbv, rfl⟩ := HBV.out.shape
              have HLS := Lib.hid (fun (w' : World) (e : Ext wc w') => lowest_any _ _ ls S w' hn hs1 hs0 hs2 (HL.out.ext (HHX.out.trans e)) (hss.ext e))
              have HLB := Lib.hid (fun (w' : World) (e : Ext wr w') => lowest_any _ _ ls Bb w' hn hb1 hb0 hb2 (HL.out.ext ((HHX.out.trans HX3.out).trans e)) (HBV.out.ext e))
              have HBT : Hid (El.betterG (diskN ls) S Bb = (decide (Bb.length < S.length) || (S.length == Bb.length && decide (El.lowG (diskN ls) S < El.lowG (diskN ls) Bb)))) := rfl
              have HSS := Lib.hid hss
              generalize El.lowG (diskN ls) S = lS at *
              generalize El.lowG (diskN ls) Bb = lB at *
              generalize El.betterG (diskN ls) S Bb = bet at *
              obtain ⟨ns, hns⟩ : ∃ x, S.length = x := ⟨_, rfl⟩
              obtain ⟨nb, hnb⟩ : ∃ x, Bb.length = x := ⟨_, rfl⟩
              rw [hns] at HBT HLS HSS hct2 hs0 hs1
              rw [hnb] at HBT HLB HBV hb0 hb1 ⊢
              clear hbm hsm hss hct hev hns hnb hnx hjl hjg hjv hjt hs2 hb2
              rcases Nat.lt_trichotomy nb ns with hc | hc | hc
              · have d1 : decide ((nb : Int) < (ns : Int)) = true := by rw [decide_eq_true_iff]; omega
                have d2 : decide (nb < ns) = true := by rw [decide_eq_true_iff]; exact hc
                have HBE : Hid (bet = true) := by show _ = _; rw [HBT.out, d2]; rfl
                clear hc
                go_wp2_with fail
                go_roundw
                case rel => exact ⟨j + 1, by omega, by go_num, by rw [HN.out, HBE.out, if_pos rfl]; exact HSS.out.ext HX3.out, HX3⟩
                case measure => simp [intOf]; omega
              · subst hc
                have d1 : decide ((nb : Int) < (nb : Int)) = false := by rw [decide_eq_false_iff_not]; omega
                have d2 : decide (nb < nb) = false := by rw [decide_eq_false_iff_not]; omega
                have d3 : ((nb : Int) == (nb : Int)) = true := by simp
                have HBE : Hid (bet = decide (lS < lB)) := by show _ = _; rw [HBT.out]; simp
                clear HBT
                go_wp2_with fail
                go_at_call 33
                refine (HLS.out _ HX3.out).mono ?_
                rintro e w4 ⟨rfl, hb4⟩
                have HB4 := Lib.hid hb4
                clear hb4
                go_wp2_with fail
                go_at_call 33
                refine (HLB.out _ HB4.out).mono ?_
                rintro e w5 ⟨rfl, hb5⟩
                have HB5 := Lib.hid (HB4.out.trans hb5)
                clear hb5
                by_cases hll : lS < lB
                · have d4 : decide ((lS : Int) < (lB : Int)) = true := by rw [decide_eq_true_iff]; omega
                  have d5 : decide (lS < lB) = true := by rw [decide_eq_true_iff]; exact hll
                  rw [d5] at HBE
                  clear hll
                  go_wp2_with fail
                  go_roundw
                  case rel => exact ⟨j + 1, by omega, by go_num, by rw [HN.out, HBE.out, if_pos rfl]; exact (HSS.out.ext HX3.out).ext HB5.out, HX3.out.trans HB5.out⟩
                  case measure => simp [intOf]; omega
                · have d4 : decide ((lS : Int) < (lB : Int)) = false := by rw [decide_eq_false_iff_not]; omega
                  have d5 : decide (lS < lB) = false := by rw [decide_eq_false_iff_not]; exact hll
                  rw [d5] at HBE
                  clear hll
                  go_wp2_with fail
                  go_roundw
                  case rel => exact ⟨j + 1, by omega, by go_num, by rw [HN.out, HBE.out, if_neg (by simp)]; exact HBV.out.ext HB5.out, HX3.out.trans HB5.out⟩
                  case measure => simp [intOf]; omega
              · have d1 : decide ((nb : Int) < (ns : Int)) = false := by rw [decide_eq_false_iff_not]; omega
                have d2 : decide (nb < ns) = false := by rw [decide_eq_false_iff_not]; omega
                have d3 : ((ns : Int) == (nb : Int)) = false := by rw [beq_eq_false_iff_ne]; omega
                have HBE : Hid (bet = false) := by show _ = _; rw [HBT.out, d2]; simp; omega
                clear hc
                go_wp2_with fail
                go_roundw
                case rel => exact ⟨j + 1, by omega, by go_num, by rw [HN.out, HBE.out, if_neg (by simp)]; exact HBV, HX3⟩
                case measure => simp [intOf]; omega
            · have hjp : j = p1 := by omega
              subst hjp
              have hin3 : ¬ ((j : Int) < (j : Int)) := by omega
              rw [show (G.drop 1).take j = G.drop 1 by rw [← HDL.out, List.take_length], ← HPB.out] at HBV
              have hbm : El.pickG (diskN ls) G ∈ gs := by rw [HPB.out]; exact HB1.out _ fun s hs => HSUB.out s (List.mem_of_mem_drop hs)
              obtain ⟨hb0, _, _⟩ := HOK.out _ hbm
              have HRES : Hid (El.chooseF (diskN ls) (deadL ls) gs = (El.pickG (diskN ls) G)[0]) := HCF.out.trans (head_get hb0)
              obtain ⟨abv, cbv, rfl⟩ := HBV.out.shape
              obtain ⟨bb, ob, rfl, hbb, hcb⟩ := HBV.out.get 0 hb0
              rw [Nat.add_zero] at hcb
              generalize (El.pickG (diskN ls) G)[0] = res at *
              obtain ⟨nb, hnb⟩ : ∃ x, (El.pickG (diskN ls) G).length = x := ⟨_, rfl⟩
              rw [hnb] at HBV hb0 ⊢
              have hbi : (0 : Int) < (nb : Int) := by omega
              clear hnb hbm
              go_wp2_with fail
              go_ret
              exact ⟨by rw [HRES.out]; rfl, HHX.out.trans HX3.out⟩
end Go.Proofs.Ytpmbbeflgifgaaa
