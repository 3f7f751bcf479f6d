/-
  Chapter 31 (election): outlives.
-/
import Derived.Test.YtpmbbeflgifgaaaElC
namespace Go.Proofs.Ytpmbbeflgifgaaa
open Go.RowKit
set_option linter.unusedVariables false

/-- v is a slice of slices of places that reads as gs -/
def RowsAt (w : World) (v : Value) (gs : List (List Nat)) : Prop :=
  ∃ vs : List Value, SliceAt id w v vs ∧ vs.length = gs.length ∧ ∀ i (h1 : i < vs.length) (h2 : i < gs.length), SliceAt encN w vs[i] gs[i]
theorem RowsAt.ext {w w' : World} {v : Value} {gs : List (List Nat)} (h : RowsAt w v gs) (e : Ext w w') : RowsAt w' v gs := by
  obtain ⟨vs, h1, h2, h3⟩ := h
  exact ⟨vs, h1.ext e, h2, fun i a b => (h3 i a b).ext e⟩
theorem RowsAt.shape {w : World} {v : Value} {gs : List (List Nat)} (h : RowsAt w v gs) : ∃ ad cap, v = .slice ad gs.length cap := by
  obtain ⟨vs, h1, h2, _⟩ := h
  obtain ⟨ad, cap, e⟩ := h1.shape
  exact ⟨ad, cap, by rw [e, h2]⟩
theorem RowsAt.get {w : World} {ad : Option Addr} {n cap : Nat} {gs : List (List Nat)} (h : RowsAt w (.slice ad n cap) gs) (i : Nat) (hi : i < gs.length) :
    ∃ b off, ad = some ⟨b, off, none⟩ ∧ b < w.heap.size ∧ ∃ v, w.cell? ⟨b, off + i, none⟩ = some v ∧ SliceAt encN w v gs[i] := by
  obtain ⟨vs, h1, h2, h3⟩ := h
  obtain ⟨b, off, e, hb, hc⟩ := h1.get i (by omega)
  exact ⟨b, off, e, hb, _, hc, h3 i (by omega) hi⟩
def deadL (ls : List LD) (i : Nat) : List Bool := (ldN ls i).2
/-- places of labels whose disks are no negative numbers -/
def Places (ls : List LD) (s : List Nat) : Prop := ∀ i, i ∈ s → i < ls.length ∧ 0 ≤ (ldN ls i).1.disk
theorem all_next {α : Type} {l : List α} {f : α → Bool} {i : Nat} (h : i < l.length) (ha : (l.take i).all f = true) (hi : f l[i] = true) : (l.take (i + 1)).all f = true := by
  rw [List.take_succ_eq_append_getElem h, List.all_append, ha, Bool.true_and]
  simp [hi]
theorem all_not {α : Type} {l : List α} {f : α → Bool} {i : Nat} (h : i < l.length) (hi : f l[i] = false) : l.all f = false := by
  cases hc : l.all f with
  | false => rfl
  | true => rw [List.all_eq_true] at hc; rw [hc _ (List.getElem_mem h)] at hi; cases hi
theorem head_get {s : List Nat} (h : 0 < s.length) : s.headD 0 = s[0] := by
  cases s with
  | nil => simp at h
  | cons a t => rfl
set_option maxRecDepth 100000 in
set_option maxHeartbeats 2000000 in
theorem outlives_any (vl va vs : Value) (ls : List LD) (gs : List (List Nat)) (s : List Nat) (w : World) (hn : ls.length ≤ 1000) (hgs : gs.length ≤ 1000) (hgl : ∀ g, g ∈ gs → 0 < g.length ∧ g.length ≤ 1000 ∧ Places ls g) (h0 : 0 < s.length) (hps : Places ls s) (hdl : ∀ i, (ldN ls i).2.length ≤ 100000)
    (h : LabsAt w vl ls) (ha : RowsAt w va gs) (hs : SliceAt encN w vs s) :
    Calls Try.prog 32 #[vl, va, vs] w (BoolEnd w (El.outG (diskN ls) (deadL ls) gs s)) := by
  obtain ⟨al, cl, rfl⟩ := h.shape
  obtain ⟨aa, ca, rfl⟩ := ha.shape
  obtain ⟨ad, cap, rfl⟩ := hs.shape
  have hs0 := hps s[0] (List.getElem_mem h0)
  have hhd := head_get h0
  obtain ⟨b, off, rfl, hb, hc⟩ := hs.get 0 h0
  rw [Nat.add_zero] at hc
  have HF : Hid (El.outG (diskN ls) (deadL ls) gs s = gs.all fun o => o.headD 0 == s[0] || o.all fun i => ((ldN ls s[0]).2).getD (diskN ls i) false) := by show _ = _; unfold El.outG deadL; rw [hhd]
  clear hhd
  generalize s[0] = p at *
  obtain ⟨hp1, hp2⟩ := hs0
  obtain ⟨bl, ol, rfl, dv, hA, hD⟩ := h.at p hp1
  obtain ⟨add, cpd, rfl⟩ := hD.shape
  have hc15 := hA.cell 15 (v := .slice add (ldN ls p).2.length cpd) rfl
  have hblt := hA.2
  have hdlp := hdl p
  generalize (ldN ls p).2 = D at *
  have hpi : (p : Int) < (ls.length : Int) := by omega
  obtain ⟨F, hFd⟩ : ∃ F : List Nat → Bool, (fun o : List Nat => o.headD 0 == p || o.all fun i => D.getD (diskN ls i) false) = F := ⟨_, rfl⟩
  rw [hFd] at HF
  have hFo : ∀ o : List Nat, F o = (o.headD 0 == p || o.all fun i => D.getD (diskN ls i) false) := fun o => by rw [← hFd]
  have HFO := Lib.hid hFo
  rw [HF.out]
  have HL := Lib.hid h
  have HA := Lib.hid ha
  have HS := Lib.hid hs
  have HDD := Lib.hid hD
  have HC := Lib.hid hc
  have HGL := Lib.hid hgl
  clear h ha hs hD hgl hps hdl hFd hFo HF hA
  obtain ⟨m, hm⟩ : ∃ m, gs.length = m := ⟨_, rfl⟩
  have HM := Lib.hid hm
  obtain ⟨q, hq⟩ : ∃ q, D.length = q := ⟨_, rfl⟩
  have HQ := Lib.hid hq
  obtain ⟨z, hz⟩ : ∃ z, s.length = z := ⟨_, rfl⟩
  rw [hz] at HS h0 ⊢
  rw [hm] at HA hgs ⊢
  rw [hq] at HDD hc15 hdlp
  have hz0 : (0 : Int) < (z : Int) := by omega
  clear hm hq hz
  go_enter Try.func32, Try.ntmps32
  go_wp2_with fail
  clear hc hc15
  go_loopw [22] (fun it wr => ∃ i : Nat, i ≤ m ∧ it = .int .i64 i ∧ Hid ((gs.take i).all F = true) ∧ Hid (Ext w wr)) (fun it _ => m - (intOf it).toNat)
  case atStart => exact ⟨0, Nat.zero_le _, rfl, by show _ = _; simp, Lib.hid (Ext.refl _)⟩
  case round =>
    obtain ⟨i, hi, rfl, HALL, HX⟩ := hrel
    generalize wr = wo at *
    by_cases hlt : i < m
    · have hin : (i : Int) < (m : Int) := by omega
      have hil : i < gs.length := by rw [HM.out]; exact hlt
      obtain ⟨ba, oa, rfl, hba, rv, hcr, hro⟩ := (HA.out.ext HX.out).get i hil
      obtain ⟨hg0, hg1, hg2⟩ := HGL.out _ (List.getElem_mem hil)
      have HNX := Lib.hid fun (e : F gs[i] = true) => all_next hil HALL.out e
      have HNO := Lib.hid fun (e : F gs[i] = false) => all_not hil e
      have HFG := Lib.hid (HFO.out gs[i])
      rw [head_get hg0] at HFG
      have HG2 := Lib.hid hg2
      obtain ⟨ar, cr, rfl⟩ := hro.shape
      obtain ⟨br, orr, rfl, hbr, hch⟩ := hro.get 0 hg0
      rw [Nat.add_zero] at hch
      have HRO := Lib.hid hro
      generalize gs[i] = o at *
      generalize F o = Fo at *
      have hsc := (HX.out.cell _ _ hb).trans HC.out
      obtain ⟨x, hx⟩ : ∃ x, o[0] = x := ⟨_, rfl⟩
      rw [hx] at hch HFG
      obtain ⟨k, hk⟩ : ∃ k, o.length = k := ⟨_, rfl⟩
      have HK := Lib.hid hk
      rw [hk] at HRO hg0 hg1 hcr
      clear hg2 hro hx hk
      have hk0 : (0 : Int) < (k : Int) := by omega
      have hb1 := Nat.lt_of_lt_of_le hb HX.out.size
      cases hxp : (x == p) with
      | true =>
        have hxi : ((x : Int) == (p : Int)) = true := by rw [beq_iff_eq] at hxp ⊢; omega
        rw [hxp, Bool.true_or] at HFG
        clear hxp
        go_wp2_with fail
        refine wp_region_ext [(0, true), (1, true), (2, true), (3, true), (4, true), (5, true), (6, true)] (by kernel_rfl) (by kernel_rfl) ?_
        iterate 7 (first
         | (refine ext_move rfl rfl (by rfl) (by rfl) ?_; simp only [Act.put, List.setIfInBounds_toArray, List.set_cons_zero, List.set_cons_succ])
         | (refine ext_assign rfl rfl (by rfl) (by rfl) ?_; simp only [Act.put, List.setIfInBounds_toArray, List.set_cons_zero, List.set_cons_succ])
         | (refine ext_pick_t rfl rfl (by rfl) (by rfl) (by rfl) ?_; simp only [Act.put, List.setIfInBounds_toArray, List.set_cons_zero, List.set_cons_succ])
         | (refine ext_pick_f rfl rfl (by rfl) (by rfl) (by rfl) ?_; simp only [Act.put, List.setIfInBounds_toArray, List.set_cons_zero, List.set_cons_succ])
         | (apply ext_take rfl (by rfl)
            · intro w' hS
              have hSc := hS.cells
              (try simp only [World.size_drew, World.cell?_drew] at hSc)
              go_simp
              (try simp (disch := omega) only [i64_id, u64_id, ↓IntWalk.iteOmega, Int.tdiv_eq_ediv_of_nonneg, Int.tmod_eq_emod_of_nonneg])
              try rfl
            simp only [Act.put, List.setIfInBounds_toArray, List.set_cons_zero, List.set_cons_succ])
         | (refine ext_pass rfl (by rfl) ?_; simp only [Act.put, List.setIfInBounds_toArray, List.set_cons_zero, List.set_cons_succ]))
        refine ext_nil ?_
        go_wp2_with fail
        go_roundw
        case rel => exact ⟨i + 1, by omega, by go_num, HNX.out HFG.out, HX.out.trans (Ext.drew _)⟩
        case measure => simp [intOf]; omega
      | false =>
        have hxi : ((x : Int) == (p : Int)) = false := by rw [beq_eq_false_iff_ne] at hxp ⊢; omega
        rw [hxp, Bool.false_or] at HFG
        clear hxp
        go_wp2_with fail
        refine wp_region_ext [(0, true), (1, true), (2, true), (3, true), (4, true), (5, true), (6, true)] (by kernel_rfl) (by kernel_rfl) ?_
        iterate 7 (first
         | (refine ext_move rfl rfl (by rfl) (by rfl) ?_; simp only [Act.put, List.setIfInBounds_toArray, List.set_cons_zero, List.set_cons_succ])
         | (refine ext_assign rfl rfl (by rfl) (by rfl) ?_; simp only [Act.put, List.setIfInBounds_toArray, List.set_cons_zero, List.set_cons_succ])
         | (refine ext_pick_t rfl rfl (by rfl) (by rfl) (by rfl) ?_; simp only [Act.put, List.setIfInBounds_toArray, List.set_cons_zero, List.set_cons_succ])
         | (refine ext_pick_f rfl rfl (by rfl) (by rfl) (by rfl) ?_; simp only [Act.put, List.setIfInBounds_toArray, List.set_cons_zero, List.set_cons_succ])
         | (apply ext_take rfl (by rfl)
            · intro w' hS
              have hSc := hS.cells
              (try simp only [World.size_drew, World.cell?_drew] at hSc)
              go_simp
              (try simp (disch := omega) only [i64_id, u64_id, ↓IntWalk.iteOmega, Int.tdiv_eq_ediv_of_nonneg, Int.tmod_eq_emod_of_nonneg])
              try rfl
            simp only [Act.put, List.setIfInBounds_toArray, List.set_cons_zero, List.set_cons_succ])
         | (refine ext_pass rfl (by rfl) ?_; simp only [Act.put, List.setIfInBounds_toArray, List.set_cons_zero, List.set_cons_succ]))
        refine ext_nil ?_
        have HX1 : Hid (Ext w wo.drew) := HX.out.trans (Ext.drew _)
        have HRO1 := Lib.hid (HRO.out.ext (Ext.drew wo))
        generalize wo.drew = wd at *
        clear hch hcr hsc hbr hb1 hba
        go_wp2_with fail
        go_loop [35] (fun it => ∃ j : Nat, j ≤ k ∧ it = .int .i64 j ∧ Hid ((o.take j).all (fun i => D.getD (diskN ls i) false) = true)) (fun it => k - (intOf it).toNat)
        case atStart => exact ⟨0, Nat.zero_le _, rfl, by show _ = _; simp⟩
        case round =>
          obtain ⟨j, hj, rfl, HALJ⟩ := hrel
          by_cases hjk : j < k
          · have hin2 : (j : Int) < (k : Int) := by omega
            have hjl : j < o.length := by rw [HK.out]; exact hjk
            obtain ⟨br', or', hbe, hbr, hcj⟩ := HRO1.out.get j hjl
            cases hbe
            obtain ⟨hy1, hy2⟩ := HG2.out o[j] (List.getElem_mem hjl)
            have HNX2 := Lib.hid fun (e : D.getD (diskN ls o[j]) false = true) => all_next (f := fun i => D.getD (diskN ls i) false) hjl HALJ.out e
            have HNO2 := Lib.hid fun (e : D.getD (diskN ls o[j]) false = false) => all_not (f := fun i => D.getD (diskN ls i) false) hjl e
            generalize o[j] = y at *
            obtain ⟨bl', ol', hble, dvy, hAy, _⟩ := (HL.out.ext HX1.out).at y hy1
            cases hble
            obtain ⟨dk, hdk⟩ := Int.eq_ofNat_of_zero_le hy2
            have hdk2 : diskN ls y = dk := by unfold diskN; rw [hdk]; rfl
            rw [hdk2] at HNX2 HNO2
            have c1 := hAy.cell 1 (v := .int .i64 dk) (by rw [← hdk]; rfl)
            have hb2 := hAy.2
            have hyi : (y : Int) < (ls.length : Int) := by omega
            clear hAy hdk2 hdk hy2
            by_cases hdq : dk < q
            · have hd1 : decide ((q : Int) ≤ (dk : Int)) = false := by rw [decide_eq_false_iff_not]; omega
              have hd2 : decide (q ≤ dk) = false := by rw [decide_eq_false_iff_not]; omega
              have hd3 : (dk : Int) < (q : Int) := by omega
              obtain ⟨bd, od, rfl, hbd, hcd⟩ := (HDD.out.ext HX1.out).get dk (by rw [HQ.out]; exact hdq)
              rw [← getD_in (d := false) (show dk < D.length by rw [HQ.out]; exact hdq)] at hcd
              generalize D.getD dk false = u at *
              cases u with
              | true =>
                go_wp2_with fail
                go_round
                case rel => exact ⟨j + 1, by omega, by go_num, HNX2.out (by simp)⟩
                case measure => simp [intOf]; omega
              | false =>
                go_wp2_with fail
                go_ret
                exact ⟨by rw [HNO.out (by rw [HFG.out]; exact HNO2.out (by simp))]; rfl, HX1.out⟩
            · have hd1 : decide ((q : Int) ≤ (dk : Int)) = true := by rw [decide_eq_true_iff]; omega
              have hd2 : decide (q ≤ dk) = true := by rw [decide_eq_true_iff]; omega
              have hgd : D.getD dk false = false := getD_out (by rw [HQ.out]; exact hdq)
              have HGD := Lib.hid hgd
              clear hgd
              go_wp2_with fail
              go_ret
              exact ⟨by rw [HNO.out (by rw [HFG.out]; exact HNO2.out HGD.out)]; rfl, HX1.out⟩
          · have hjn : j = k := by omega
            subst hjn
            have hin3 : ¬ ((j : Int) < (j : Int)) := by omega
            go_wp2_with fail
            rw [show o.take j = o by rw [← HK.out, List.take_length]] at HALJ
            go_roundw
            case rel => exact ⟨i + 1, by omega, by go_num, HNX.out (HFG.out.trans HALJ.out), HX1.out⟩
            case measure => simp [intOf]; omega
    · have him : i = m := by omega
      subst him
      have hin2 : ¬ ((i : Int) < (i : Int)) := by omega
      go_wp2_with fail
      rw [show gs.take i = gs by rw [← HM.out, List.take_length]] at HALL
      go_ret
      exact ⟨by rw [HALL.out]; rfl, HX.out⟩
end Go.Proofs.Ytpmbbeflgifgaaa
