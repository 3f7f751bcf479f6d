/-
  Chapter 31 (election): the reference's Elect.
-/
import Derived.Test.YtpmbbeflgifgaaaElKB
namespace Go.Proofs.Ytpmbbeflgifgaaa
open Go.RowKit
set_option linter.unusedVariables false

theorem down_next {p : Nat → Bool} {a : Int} {n j : Nat} (h : j < n) : El.downN p a n (n - j) = if p j then (j : Int) else El.downN p a n (n - (j + 1)) := by
  have e : n - j = (n - (j + 1)) + 1 := by omega
  rw [e, El.downN, show n - 1 - (n - (j + 1)) = j by omega]
theorem idxZ_some (k : Nat) : idxZ (some k) = k := rfl
/-- the places of the first d disks stand -/
def PartE (ls : List LD) (rd : List Bool) (m d : Nat) (A : List Int) : Prop := A.length = disksN ls m ∧ ∀ j, j < d → A.getD j (-1) = (atE ls rd m).getD j (-1)
theorem atE_lenC (ls : List LD) (rd : List Bool) (m : Nat) : (atE ls rd m).length = disksN ls m := by unfold atE; rw [List.length_map, List.length_range]
def oldP (ls : List LD) (rd : List Bool) (m d i : Nat) : Bool := candN ls rd i && (diskN ls i == d && oldN ls m i)
def curP (ls : List LD) (rd : List Bool) (m d i : Nat) : Bool := candN ls rd i && (diskN ls i == d && curN ls m i)
theorem part_start {ls : List LD} {rd : List Bool} {m D : Nat} (h : disksN ls m = D) : PartE ls rd m 0 (fillN D 0) := ⟨by rw [fillN_len (Nat.zero_le _), h], fun j hj => absurd hj (Nat.not_lt_zero j)⟩
theorem part_next {ls : List LD} {rd : List Bool} {m d : Nat} {A : List Int} (h : PartE ls rd m d A) (hd : d < disksN ls m) :
    PartE ls rd m (d + 1) (A.set d (El.downN (curP ls rd m d) (El.downN (oldP ls rd m d) (-1) ls.length ls.length) ls.length ls.length)) := by
  refine ⟨by rw [List.length_set]; exact h.1, fun j hj => ?_⟩
  rw [El.getD_set (by rw [h.1]; exact hd), El.down_place]
  by_cases e : d = j
  · subst e
    rw [if_pos rfl, getD_in (by rw [atE_lenC]; exact hd)]
    simp only [atE, List.getElem_map, List.getElem_range]
    rfl
  · rw [if_neg e]; exact h.2 j (by omega)
theorem part_end {ls : List LD} {rd : List Bool} {m : Nat} {A : List Int} (h : PartE ls rd m (disksN ls m) A) : A = atE ls rd m := by
  refine List.ext_getElem (by rw [h.1, atE_lenC]) fun i h1 h2 => ?_
  have := h.2 i (by rw [← h.1]; exact h1)
  rwa [getD_in h1, getD_in h2] at this
set_option maxRecDepth 100000 in
set_option maxHeartbeats 8000000 in
theorem rElect_any (vl vr : Value) (ls : List LD) (rd : List Bool) (w : World) (hn : ls.length ≤ 900) (hr : rd.length ≤ 100000) (hdl : ∀ i, (ldN ls i).2.length ≤ 100000)
    (h : LabsAt w vl ls) (hrd : SliceAt Value.bool w vr rd) :
    Calls Try.prog 12 #[vl, vr] w (ElectEnd w ls rd) := by
  obtain ⟨al, cl, rfl⟩ := h.shape
  obtain ⟨ar, cr, rfl⟩ := hrd.shape
  have HL := Lib.hid h
  have HR := Lib.hid hrd
  have e1 : Ext w (w.alloc (.cells zeroA 32)) := Ext.alloc _ _
  have b1 : BoxAt (w.alloc (.cells zeroA 32)) w.heap.size zeroA 32 := BoxAt.new _ _ _
  have HE1 := Lib.hid e1
  have HB1 := Lib.hid b1
  clear h hrd e1 b1
  by_cases hlen : ls.length = rd.length
  · have HLEN := Lib.hid hlen
    have hBT := fun (w' : World) (d1 d2 : Value) (a b : Nat) (e : Ext w w') (ha : SliceAt Value.bool w' d1 (ldN ls a).2) (hb : SliceAt Value.bool w' d2 (ldN ls b).2) =>
      better_any _ _ d1 d2 ls rd a b w' hn hlen.symm hdl (HL.out.ext e) (HR.out.ext e) ha hb
    have HSTEP := Lib.hid (fun k => El.best_step (labels_ok ls rd (by omega)) k)
    have HBEST : Hid (bestE ls rd = El.bestTo (candN ls rd) (keyE ls rd) ls.length) := rfl
    obtain ⟨n, hnn⟩ : ∃ n, ls.length = n := ⟨_, rfl⟩
    have HN1 := Lib.hid hnn
    have HN2 := Lib.hid (hlen.symm.trans hnn)
    rw [← hlen] at HR hBT ⊢
    have HKE : Hid (keyE ls rd = El.keyN n (candN ls rd) (genN ls) (eqN ls) (diskN ls) (deadL ls)) := by show _ = _; rw [← hnn]; rfl
    rw [hnn] at HR HL hn HSTEP HBEST hBT ⊢
    rw [← HKE.out] at HSTEP
    have HBT := Lib.hid hBT
    clear hlen hnn hr hBT HKE
    go_enter Try.func12, Try.ntmps12
    go_wp2_with fail
    go_loopw [7, 8] (fun bt it wr => ∃ i : Nat, i ≤ n ∧ it = .int .i64 i ∧ bt = .int .i64 (idxZ (El.bestTo (candN ls rd) (keyE ls rd) i)) ∧ Hid (BoxAt wr w.heap.size zeroA 32) ∧ Hid (Ext w wr)) (fun _ it _ => n - (intOf it).toNat)
    case atStart => exact ⟨0, Nat.zero_le _, rfl, rfl, HB1, HE1⟩
    case round =>
      obtain ⟨i, hi, rfl, rfl, HB, HX⟩ := hrel
      by_cases hlt : i < n
      · have hin : (i : Int) < (n : Int) := by omega
        have hi0 : (0 : Int) ≤ (i : Int) := by omega
        have hil : i < ls.length := by rw [HN1.out]; exact hlt
        have hir : i < rd.length := by rw [HN2.out]; exact hlt
        obtain ⟨bl, ol, rfl, dv, hA, hD⟩ := (HL.out.ext HX.out).at i hil
        obtain ⟨ad, cd, rfl⟩ := hD.shape
        obtain ⟨br, or_, rfl, hbr, hcr⟩ := (HR.out.ext HX.out).get i hir
        rw [← getD_in (d := false) hir] at hcr
        have HV := Lib.hid (fun w' (e : Ext wr w') => rvalid_any (ldN ls i).1 _ _ w' (hdl i) (hD.ext e))
        have HCI : Hid (candN ls rd i = (rd.getD i false && validL (ldN ls i).1 (ldN ls i).2)) := rfl
        have HS := Lib.hid (HSTEP.out i)
        have HBF : Hid (∀ b, El.bestTo (candN ls rd) (keyE ls rd) i = some b → b < i) := fun b e => (El.bestTo_some e).lt
        have HA := Lib.hid hA
        have HD := Lib.hid hD
        generalize El.bestTo (candN ls rd) (keyE ls rd) i = B at *
        clear hA hD
        obtain ⟨r, hr⟩ : ∃ r, rd.getD i false = r := ⟨_, rfl⟩
        rw [hr] at hcr HCI
        clear hr
        cases r with
        | false =>
          have HC : Hid (candN ls rd i = false) := HCI.out
          have HS2 : Hid (El.bestTo (candN ls rd) (keyE ls rd) (i + 1) = B) := by show _ = _; rw [HS.out, HC.out]; cases B <;> rfl
          go_wp2_with fail
          go_roundw
          case rel => exact ⟨i + 1, by omega, by go_num, by rw [HS2.out], HB, HX⟩
          case measure => first | (simp [intOf]; done) | (simp [intOf]; omega)
        | true =>
          rw [Bool.true_and] at HCI
          go_wp2_with (refine wpList_loadR 32 _ rfl (by rfl) rfl HA.out.load ?_)
          go_at_call 16
          refine (HV.out _ (Ext.refl _)).mono ?_
          rintro e w3 ⟨rfl, hb3⟩
          have HX3 : Hid (Ext wr w3) := hb3
          clear hb3 hcr
          obtain ⟨v, hv⟩ : ∃ v, validL (ldN ls i).1 (ldN ls i).2 = v := ⟨_, rfl⟩
          rw [hv] at HCI ⊢
          clear hv
          cases v with
          | false =>
            have HS2 : Hid (El.bestTo (candN ls rd) (keyE ls rd) (i + 1) = B) := by show _ = _; rw [HS.out, HCI.out]; cases B <;> rfl
            go_wp2_with fail
            go_roundw
            case rel => exact ⟨i + 1, by omega, by go_num, by rw [HS2.out], HB.out.ext HX3.out, HX.out.trans HX3.out⟩
            case measure => first | (simp [intOf]; done) | (simp [intOf]; omega)
          | true =>
            cases B with
            | none =>
              have HS2 : Hid (El.bestTo (candN ls rd) (keyE ls rd) (i + 1) = some i) := by show _ = _; rw [HS.out, HCI.out]; rfl
              rw [show idxZ none = -1 from rfl]
              go_wp2_with fail
              refine wp_region_ext [(0, true), (1, true), (2, true), (3, true), (4, true), (5, true), (6, true), (7, true), (8, true), (9, true), (10, true), (11, true), (12, true), (13, true), (14, true)] (by kernel_rfl) (by kernel_rfl) ?_
              iterate 15 (first
               | (refine ext_move rfl rfl (by rfl) (by rfl) ?_; simp only [Act.put, List.setIfInBounds_toArray, List.set_cons_zero, List.set_cons_succ])
               | (refine ext_assign rfl rfl (by rfl) (by rfl) ?_; simp only [Act.put, List.setIfInBounds_toArray, List.set_cons_zero, List.set_cons_succ])
               | (refine ext_pick_t rfl rfl (by rfl) (by rfl) (by rfl) ?_; simp only [Act.put, List.setIfInBounds_toArray, List.set_cons_zero, List.set_cons_succ])
               | (refine ext_pick_f rfl rfl (by rfl) (by rfl) (by rfl) ?_; simp only [Act.put, List.setIfInBounds_toArray, List.set_cons_zero, List.set_cons_succ])
               | (apply ext_take rfl (by rfl)
                  · intro w' hS
                    have hSc := hS.cells
                    (try simp only [World.size_drew, World.cell?_drew] at hSc)
                    go_simp
                    (try simp (disch := omega) only [i64_id, u64_id, ↓IntWalk.iteOmega, Int.tdiv_eq_ediv_of_nonneg, Int.tmod_eq_emod_of_nonneg])
                    try rfl
                  simp only [Act.put, List.setIfInBounds_toArray, List.set_cons_zero, List.set_cons_succ])
               | (refine ext_pass rfl (by rfl) ?_; simp only [Act.put, List.setIfInBounds_toArray, List.set_cons_zero, List.set_cons_succ]))
              refine ext_nil ?_
              go_wp2_with fail
              go_roundw
              case rel => exact ⟨i + 1, by omega, by go_num, by rw [HS2.out]; rfl, HB.out.ext (HX3.out.trans (Ext.drew _)), HX.out.trans (HX3.out.trans (Ext.drew _))⟩
              case measure => first | (simp [intOf]; done) | (simp [intOf]; omega)
            | some b =>
              have hbi := HBF.out b rfl
              rw [idxZ_some]
              have HTK : Hid (El.bestTo (candN ls rd) (keyE ls rd) (i + 1) = if El.takeN n (candN ls rd) (genN ls) (eqN ls) (diskN ls) (deadL ls) b i then some i else some b) := by show _ = _; rw [HS.out, HCI.out]; rfl
              have hTD : El.takeN n (candN ls rd) (genN ls) (eqN ls) (diskN ls) (deadL ls) b i = (decide (genN ls b < genN ls i) || (genN ls i == genN ls b && El.betterN n (candN ls rd) (genN ls) (eqN ls) (diskN ls) (deadL ls) i b)) := rfl
              have HTD := Lib.hid hTD
              clear hTD HS HBF
              have hbI : (b : Int) < (n : Int) := by omega
              have hb0 : (0 : Int) ≤ (b : Int) := by omega
              have hbneg : decide ((b : Int) < 0) = false := by rw [decide_eq_false_iff_not]; omega
              obtain ⟨bl2, ol2, hble, dvb, hAb, hDb⟩ := ((HL.out.ext HX.out).ext HX3.out).at b (by rw [HN1.out]; omega)
              cases hble
              obtain ⟨ab, cb, rfl⟩ := hDb.shape
              have hAi := HA.out.ext HX3.out
              have HDi := Lib.hid (HD.out.ext HX3.out)
              have HAI := Lib.hid hAi
              have HAB := Lib.hid hAb
              have HDB := Lib.hid hDb
              have cb2 := hAb.gen
              have ci2 := hAi.gen
              have hlb := hAb.2
              have HB3 := Lib.hid (HB.out.ext HX3.out)
              have HXW := Lib.hid (HX.out.trans HX3.out)
              generalize genN ls b = Gb at *
              generalize genN ls i = Gi at *
              clear hAb hAi hDb
              rcases Nat.lt_trichotomy Gb Gi with hg | hg | hg
              · have g1 : decide ((Gb : Int) < (Gi : Int)) = true := by rw [decide_eq_true_iff]; omega
                have g2 : decide (Gb < Gi) = true := by rw [decide_eq_true_iff]; exact hg
                have HT2 : Hid (El.bestTo (candN ls rd) (keyE ls rd) (i + 1) = some i) := by show _ = _; rw [HTK.out, HTD.out, g2]; rfl
                clear hg
                go_wp2_with fail
                refine wp_region_ext [(0, true), (1, true), (2, true), (3, true), (4, true), (5, true), (6, true), (7, true), (8, true), (9, true), (10, true), (11, true), (12, true), (13, true), (14, true)] (by kernel_rfl) (by kernel_rfl) ?_
                iterate 15 (first
                 | (refine ext_move rfl rfl (by rfl) (by rfl) ?_; simp only [Act.put, List.setIfInBounds_toArray, List.set_cons_zero, List.set_cons_succ])
                 | (refine ext_assign rfl rfl (by rfl) (by rfl) ?_; simp only [Act.put, List.setIfInBounds_toArray, List.set_cons_zero, List.set_cons_succ])
                 | (refine ext_pick_t rfl rfl (by rfl) (by rfl) (by rfl) ?_; simp only [Act.put, List.setIfInBounds_toArray, List.set_cons_zero, List.set_cons_succ])
                 | (refine ext_pick_f rfl rfl (by rfl) (by rfl) (by rfl) ?_; simp only [Act.put, List.setIfInBounds_toArray, List.set_cons_zero, List.set_cons_succ])
                 | (apply ext_take rfl (by rfl)
                    · intro w' hS
                      have hSc := hS.cells
                      (try simp only [World.size_drew, World.cell?_drew] at hSc)
                      go_simp
                      (try simp (disch := omega) only [i64_id, u64_id, ↓IntWalk.iteOmega, Int.tdiv_eq_ediv_of_nonneg, Int.tmod_eq_emod_of_nonneg])
                      try rfl
                    simp only [Act.put, List.setIfInBounds_toArray, List.set_cons_zero, List.set_cons_succ])
                 | (refine ext_pass rfl (by rfl) ?_; simp only [Act.put, List.setIfInBounds_toArray, List.set_cons_zero, List.set_cons_succ]))
                refine ext_nil ?_
                go_wp2_with fail
                go_roundw
                case rel => exact ⟨i + 1, by omega, by go_num, by rw [HT2.out]; rfl, HB3.out.ext (Ext.drew _), HXW.out.trans (Ext.drew _)⟩
                case measure => first | (simp [intOf]; done) | (simp [intOf]; omega)
              · have g1 : decide ((Gb : Int) < (Gi : Int)) = false := by rw [decide_eq_false_iff_not]; omega
                have g2 : decide (Gb < Gi) = false := by rw [decide_eq_false_iff_not]; omega
                have g3 : ((Gi : Int) == (Gb : Int)) = true := by rw [beq_iff_eq]; omega
                have g4 : (Gi == Gb) = true := by rw [beq_iff_eq]; omega
                have g5 : ((Gb : Int) == (Gi : Int)) = true := by rw [beq_iff_eq]; omega
                rw [g2, g4, Bool.false_or, Bool.true_and] at HTD
                rw [HTD.out] at HTK
                clear hg
                go_wp2_with fail
                refine wp_region_ext [(0, true), (1, true), (2, true), (3, true), (4, true), (5, true), (6, true), (7, true), (8, true), (9, true), (10, true), (11, true), (12, true), (13, true), (14, true)] (by kernel_rfl) (by kernel_rfl) ?_
                iterate 15 (first
                 | (refine ext_move rfl rfl (by rfl) (by rfl) ?_; simp only [Act.put, List.setIfInBounds_toArray, List.set_cons_zero, List.set_cons_succ])
                 | (refine ext_assign rfl rfl (by rfl) (by rfl) ?_; simp only [Act.put, List.setIfInBounds_toArray, List.set_cons_zero, List.set_cons_succ])
                 | (refine ext_pick_t rfl rfl (by rfl) (by rfl) (by rfl) ?_; simp only [Act.put, List.setIfInBounds_toArray, List.set_cons_zero, List.set_cons_succ])
                 | (refine ext_pick_f rfl rfl (by rfl) (by rfl) (by rfl) ?_; simp only [Act.put, List.setIfInBounds_toArray, List.set_cons_zero, List.set_cons_succ])
                 | (apply ext_take rfl (by rfl)
                    · intro w' hS
                      have hSc := hS.cells
                      (try simp only [World.size_drew, World.cell?_drew] at hSc)
                      go_simp
                      (try simp (disch := omega) only [i64_id, u64_id, ↓IntWalk.iteOmega, Int.tdiv_eq_ediv_of_nonneg, Int.tmod_eq_emod_of_nonneg])
                      try rfl
                    simp only [Act.put, List.setIfInBounds_toArray, List.set_cons_zero, List.set_cons_succ])
                 | (refine ext_pass rfl (by rfl) ?_; simp only [Act.put, List.setIfInBounds_toArray, List.set_cons_zero, List.set_cons_succ]))
                refine ext_nil ?_
                have hAi4 := HAI.out.ext (Ext.drew w3)
                have hAb4 := HAB.out.ext (Ext.drew w3)
                have HDi4 := Lib.hid (HDi.out.ext (Ext.drew w3))
                have HDB4 := Lib.hid (HDB.out.ext (Ext.drew w3))
                have HB4 := Lib.hid (HB3.out.ext (Ext.drew w3))
                have HXW4 := Lib.hid (HXW.out.trans (Ext.drew w3))
                have HCB := Lib.hid (fun (w' : World) (e : Ext w w') => HBT.out w' (.slice ad (ldN ls i).2.length cd) (.slice ab (ldN ls b).2.length cb) i b e)
                have cb4 : w3.drew.cell? ⟨bl, ol + b * 19 + 2, none⟩ = some (.int .u64 Gb) := by rw [World.cell?_drew]; exact cb2
                have ci4 : w3.drew.cell? ⟨bl, ol + i * 19 + 2, none⟩ = some (.int .u64 Gi) := by rw [World.cell?_drew]; exact ci2
                clear cb2 ci2 hlb
                generalize w3.drew = w4 at *
                have hlb := hAb4.2
                have HAi4 := Lib.hid hAi4
                have HAb4 := Lib.hid hAb4
                clear hAi4 hAb4
                generalize El.betterN n (candN ls rd) (genN ls) (eqN ls) (diskN ls) (deadL ls) i b = z at *
                go_wp2_with fail
                refine wp_region_ext [(0, true), (1, true), (2, true), (3, true), (4, true), (5, true), (6, true), (7, true), (8, true), (9, true), (10, true), (11, true), (12, true), (13, true), (14, true), (15, true), (16, true), (17, true), (18, true), (19, true), (20, true), (21, true), (22, false), (23, true)] (by kernel_rfl) (by kernel_rfl) ?_
                iterate 17 (first
                 | (refine ext_move rfl rfl (by rfl) (by rfl) ?_; simp only [Act.put, List.setIfInBounds_toArray, List.set_cons_zero, List.set_cons_succ])
                 | (refine ext_assign rfl rfl (by rfl) (by rfl) ?_; simp only [Act.put, List.setIfInBounds_toArray, List.set_cons_zero, List.set_cons_succ])
                 | (refine ext_pick_t rfl rfl (by rfl) (by rfl) (by rfl) ?_; simp only [Act.put, List.setIfInBounds_toArray, List.set_cons_zero, List.set_cons_succ])
                 | (refine ext_pick_f rfl rfl (by rfl) (by rfl) (by rfl) ?_; simp only [Act.put, List.setIfInBounds_toArray, List.set_cons_zero, List.set_cons_succ])
                 | (apply ext_take rfl (by rfl)
                    · intro w' hS
                      have hSc := hS.cells
                      (try simp only [World.size_drew, World.cell?_drew] at hSc)
                      go_simp
                      (try simp (disch := omega) only [i64_id, u64_id, ↓IntWalk.iteOmega, Int.tdiv_eq_ediv_of_nonneg, Int.tmod_eq_emod_of_nonneg])
                      try rfl
                    simp only [Act.put, List.setIfInBounds_toArray, List.set_cons_zero, List.set_cons_succ])
                 | (refine ext_pass rfl (by rfl) ?_; simp only [Act.put, List.setIfInBounds_toArray, List.set_cons_zero, List.set_cons_succ]))
                (refine ext_load 32 rfl (by rfl) rfl (by rfl) (fun w' hS => (HAi4.out.ext hS).load) ?_; simp only [Act.put, List.setIfInBounds_toArray, List.set_cons_zero, List.set_cons_succ])
                iterate 3 (first
                 | (refine ext_move rfl rfl (by rfl) (by rfl) ?_; simp only [Act.put, List.setIfInBounds_toArray, List.set_cons_zero, List.set_cons_succ])
                 | (refine ext_assign rfl rfl (by rfl) (by rfl) ?_; simp only [Act.put, List.setIfInBounds_toArray, List.set_cons_zero, List.set_cons_succ])
                 | (refine ext_pick_t rfl rfl (by rfl) (by rfl) (by rfl) ?_; simp only [Act.put, List.setIfInBounds_toArray, List.set_cons_zero, List.set_cons_succ])
                 | (refine ext_pick_f rfl rfl (by rfl) (by rfl) (by rfl) ?_; simp only [Act.put, List.setIfInBounds_toArray, List.set_cons_zero, List.set_cons_succ])
                 | (apply ext_take rfl (by rfl)
                    · intro w' hS
                      have hSc := hS.cells
                      (try simp only [World.size_drew, World.cell?_drew] at hSc)
                      go_simp
                      (try simp (disch := omega) only [i64_id, u64_id, ↓IntWalk.iteOmega, Int.tdiv_eq_ediv_of_nonneg, Int.tmod_eq_emod_of_nonneg])
                      try rfl
                    simp only [Act.put, List.setIfInBounds_toArray, List.set_cons_zero, List.set_cons_succ])
                 | (refine ext_pass rfl (by rfl) ?_; simp only [Act.put, List.setIfInBounds_toArray, List.set_cons_zero, List.set_cons_succ]))
                (refine ext_load 32 rfl (by rfl) rfl (by rfl) (fun w' hS => (HAb4.out.ext hS).load) ?_; simp only [Act.put, List.setIfInBounds_toArray, List.set_cons_zero, List.set_cons_succ])
                refine ext_do rfl (by rfl) (fun K hK => ?_)
                go_simp
                go_at_call 26
                refine (HCB.out _ (HXW4.out.trans (Ext.drew _)) (HDi4.out.ext (Ext.drew _)) (HDB4.out.ext (Ext.drew _))).mono ?_
                rintro e w5 ⟨rfl, hb5⟩
                have HX5 : Hid (Ext w4 w5) := (Ext.drew _).trans hb5
                refine hK _ _ HX5.out ?_
                clear hK K hb5
                (try simp only [Act.put, List.setIfInBounds_toArray, List.set_cons_zero, List.set_cons_succ])
                iterate 1 (first
                 | (refine ext_move rfl rfl (by rfl) (by rfl) ?_; simp only [Act.put, List.setIfInBounds_toArray, List.set_cons_zero, List.set_cons_succ])
                 | (refine ext_assign rfl rfl (by rfl) (by rfl) ?_; simp only [Act.put, List.setIfInBounds_toArray, List.set_cons_zero, List.set_cons_succ])
                 | (refine ext_pick_t rfl rfl (by rfl) (by rfl) (by rfl) ?_; simp only [Act.put, List.setIfInBounds_toArray, List.set_cons_zero, List.set_cons_succ])
                 | (refine ext_pick_f rfl rfl (by rfl) (by rfl) (by rfl) ?_; simp only [Act.put, List.setIfInBounds_toArray, List.set_cons_zero, List.set_cons_succ])
                 | (apply ext_take rfl (by rfl)
                    · intro w' hS
                      have hSc := hS.cells
                      (try simp only [World.size_drew, World.cell?_drew] at hSc)
                      go_simp
                      (try simp (disch := omega) only [i64_id, u64_id, ↓IntWalk.iteOmega, Int.tdiv_eq_ediv_of_nonneg, Int.tmod_eq_emod_of_nonneg])
                      try rfl
                    simp only [Act.put, List.setIfInBounds_toArray, List.set_cons_zero, List.set_cons_succ])
                 | (refine ext_pass rfl (by rfl) ?_; simp only [Act.put, List.setIfInBounds_toArray, List.set_cons_zero, List.set_cons_succ]))
                refine ext_nil ?_
                cases z with
                | false =>
                  go_wp2_with fail
                  go_roundw
                  case rel => exact ⟨i + 1, by omega, by go_num, by rw [HTK.out]; rfl, HB4.out.ext HX5.out, HXW4.out.trans HX5.out⟩
                  case measure => first | (simp [intOf]; done) | (simp [intOf]; omega)
                | true =>
                  go_wp2_with fail
                  go_roundw
                  case rel => exact ⟨i + 1, by omega, by go_num, by rw [HTK.out]; rfl, HB4.out.ext HX5.out, HXW4.out.trans HX5.out⟩
                  case measure => first | (simp [intOf]; done) | (simp [intOf]; omega)
              · have g1 : decide ((Gb : Int) < (Gi : Int)) = false := by rw [decide_eq_false_iff_not]; omega
                have g2 : decide (Gb < Gi) = false := by rw [decide_eq_false_iff_not]; omega
                have g3 : ((Gi : Int) == (Gb : Int)) = false := by rw [beq_eq_false_iff_ne]; omega
                have g4 : (Gi == Gb) = false := by rw [beq_eq_false_iff_ne]; omega
                rw [g2, g4, Bool.false_or, Bool.false_and] at HTD
                rw [HTD.out] at HTK
                clear hg
                go_wp2_with fail
                refine wp_region_ext [(0, true), (1, true), (2, true), (3, true), (4, true), (5, true), (6, true), (7, true), (8, true), (9, true), (10, true), (11, true), (12, true), (13, true), (14, true)] (by kernel_rfl) (by kernel_rfl) ?_
                iterate 15 (first
                 | (refine ext_move rfl rfl (by rfl) (by rfl) ?_; simp only [Act.put, List.setIfInBounds_toArray, List.set_cons_zero, List.set_cons_succ])
                 | (refine ext_assign rfl rfl (by rfl) (by rfl) ?_; simp only [Act.put, List.setIfInBounds_toArray, List.set_cons_zero, List.set_cons_succ])
                 | (refine ext_pick_t rfl rfl (by rfl) (by rfl) (by rfl) ?_; simp only [Act.put, List.setIfInBounds_toArray, List.set_cons_zero, List.set_cons_succ])
                 | (refine ext_pick_f rfl rfl (by rfl) (by rfl) (by rfl) ?_; simp only [Act.put, List.setIfInBounds_toArray, List.set_cons_zero, List.set_cons_succ])
                 | (apply ext_take rfl (by rfl)
                    · intro w' hS
                      have hSc := hS.cells
                      (try simp only [World.size_drew, World.cell?_drew] at hSc)
                      go_simp
                      (try simp (disch := omega) only [i64_id, u64_id, ↓IntWalk.iteOmega, Int.tdiv_eq_ediv_of_nonneg, Int.tmod_eq_emod_of_nonneg])
                      try rfl
                    simp only [Act.put, List.setIfInBounds_toArray, List.set_cons_zero, List.set_cons_succ])
                 | (refine ext_pass rfl (by rfl) ?_; simp only [Act.put, List.setIfInBounds_toArray, List.set_cons_zero, List.set_cons_succ]))
                refine ext_nil ?_
                have cb3 : w3.drew.cell? ⟨bl, ol + b * 19 + 2, none⟩ = some (.int .u64 Gb) := by rw [World.cell?_drew]; exact cb2
                have ci3 : w3.drew.cell? ⟨bl, ol + i * 19 + 2, none⟩ = some (.int .u64 Gi) := by rw [World.cell?_drew]; exact ci2
                have hl3 : bl < w3.drew.heap.size := Nat.lt_of_lt_of_le hlb (Ext.drew w3).size
                go_wp2_with fail
                refine wp_region_ext [(0, true), (1, true), (2, true), (3, true), (4, true), (5, true), (6, true), (7, true), (8, true), (9, true), (10, true), (11, true), (12, true), (13, true), (14, true), (15, true), (16, true), (17, true), (18, true), (19, true), (20, true), (21, true), (22, false), (23, true)] (by kernel_rfl) (by kernel_rfl) ?_
                iterate 22 (first
                 | (refine ext_move rfl rfl (by rfl) (by rfl) ?_; simp only [Act.put, List.setIfInBounds_toArray, List.set_cons_zero, List.set_cons_succ])
                 | (refine ext_assign rfl rfl (by rfl) (by rfl) ?_; simp only [Act.put, List.setIfInBounds_toArray, List.set_cons_zero, List.set_cons_succ])
                 | (refine ext_pick_t rfl rfl (by rfl) (by rfl) (by rfl) ?_; simp only [Act.put, List.setIfInBounds_toArray, List.set_cons_zero, List.set_cons_succ])
                 | (refine ext_pick_f rfl rfl (by rfl) (by rfl) (by rfl) ?_; simp only [Act.put, List.setIfInBounds_toArray, List.set_cons_zero, List.set_cons_succ])
                 | (apply ext_take rfl (by rfl)
                    · intro w' hS
                      have hSc := hS.cells
                      (try simp only [World.size_drew, World.cell?_drew] at hSc)
                      go_simp
                      (try simp (disch := omega) only [i64_id, u64_id, ↓IntWalk.iteOmega, Int.tdiv_eq_ediv_of_nonneg, Int.tmod_eq_emod_of_nonneg])
                      try rfl
                    simp only [Act.put, List.setIfInBounds_toArray, List.set_cons_zero, List.set_cons_succ])
                 | (refine ext_pass rfl (by rfl) ?_; simp only [Act.put, List.setIfInBounds_toArray, List.set_cons_zero, List.set_cons_succ]))
                (refine ext_passE rfl (by rfl) (by first | (with_reducible exact Ext.refl _) | (with_reducible exact Ext.drew _)) ?_; simp only [Act.put, List.setIfInBounds_toArray, List.set_cons_zero, List.set_cons_succ])
                iterate 1 (first
                 | (refine ext_move rfl rfl (by rfl) (by rfl) ?_; simp only [Act.put, List.setIfInBounds_toArray, List.set_cons_zero, List.set_cons_succ])
                 | (refine ext_assign rfl rfl (by rfl) (by rfl) ?_; simp only [Act.put, List.setIfInBounds_toArray, List.set_cons_zero, List.set_cons_succ])
                 | (refine ext_pick_t rfl rfl (by rfl) (by rfl) (by rfl) ?_; simp only [Act.put, List.setIfInBounds_toArray, List.set_cons_zero, List.set_cons_succ])
                 | (refine ext_pick_f rfl rfl (by rfl) (by rfl) (by rfl) ?_; simp only [Act.put, List.setIfInBounds_toArray, List.set_cons_zero, List.set_cons_succ])
                 | (apply ext_take rfl (by rfl)
                    · intro w' hS
                      have hSc := hS.cells
                      (try simp only [World.size_drew, World.cell?_drew] at hSc)
                      go_simp
                      (try simp (disch := omega) only [i64_id, u64_id, ↓IntWalk.iteOmega, Int.tdiv_eq_ediv_of_nonneg, Int.tmod_eq_emod_of_nonneg])
                      try rfl
                    simp only [Act.put, List.setIfInBounds_toArray, List.set_cons_zero, List.set_cons_succ])
                 | (refine ext_pass rfl (by rfl) ?_; simp only [Act.put, List.setIfInBounds_toArray, List.set_cons_zero, List.set_cons_succ]))
                refine ext_nil ?_
                go_wp2_with fail
                go_roundw
                case rel => exact ⟨i + 1, by omega, by go_num, by rw [HTK.out]; rfl, HB3.out.ext ((Ext.drew _).trans (Ext.drew _)), HXW.out.trans ((Ext.drew _).trans (Ext.drew _))⟩
                case measure => first | (simp [intOf]; done) | (simp [intOf]; omega)
      · have hin : n = i := by omega
        subst hin
        have hin2 : ¬ ((n : Int) < (n : Int)) := by omega
        rw [← HBEST.out]
        clear HSTEP HBT HBEST hlt
        cases hbe : bestE ls rd with
        | none =>
          have HER := Lib.hid (errE_none HLEN.out hbe)
          have hbad := bad_lab (ls := ls) (rd := rd) (by rw [HER.out]; decide)
          have HLB := Lib.hid hbad.1
          have HPL := Lib.hid hbad.2
          rw [show idxZ none = -1 from rfl]
          clear hbad hbe
          go_wp2_with (refine wpList_store_lab (w0 := w) (l := ld0.1) (d := .slice none 0 0) _ _ rfl (by rfl) rfl rfl HB.out rfl rfl HX.out (Nat.le_refl _) ?_; intro w2 hx2 hb2 hs2)
          have hld := lab_result hb2
          refine bodyPost_ret (results_cell_tmp2 rfl _ _ rfl hld) rfl ⟨.slice none 0 0, .slice none 0 0, by rw [HER.out, HLB.out]; rfl, by rw [HLB.out]; exact SliceAt.nil, by rw [HPL.out]; exact SliceAt.nil, hx2⟩
        | some m =>
          rw [idxZ_some]
          obtain ⟨hm, hcm⟩ := best_facts hbe
          have hvm := valid_facts (cand_valid hcm)
          have HBE := Lib.hid hbe
          rw [HN1.out] at hm
          have hmi : (m : Int) < (n : Int) := by omega
          have hm0 : (0 : Int) ≤ (m : Int) := by omega
          have hmneg : decide ((m : Int) < 0) = false := by rw [decide_eq_false_iff_not]; omega
          obtain ⟨bl, ol, rfl, dv, hA, hD⟩ := HL.out.at m (by rw [HN1.out]; exact hm)
          obtain ⟨ad, cd, rfl⟩ := hD.shape
          have HA := Lib.hid (hA.ext HX.out)
          have HD := Lib.hid hD
          clear hA hD hbe hcm
          go_upto_region 15 with (first | (refine wpList_loadR 32 _ rfl (by rfl) rfl HA.out.load ?_) | (refine wpList_store_lab (w0 := wr) (l := (ldN ls m).1) (d := .slice ad (ldN ls m).2.length cd) _ _ rfl (by rfl) rfl rfl (BoxAt.new _ _ _) rfl rfl (Ext.alloc _ _) (Nat.le_refl _) ?_; intro w4 hx4 hb4 hs4))
          obtain ⟨hv1, hv2, hv3, hv4, hv5, hv6, hv7, hv8, _, _⟩ := hvm
          have hDd : (ldN ls m).1.c.d = (disksN ls m : Int) := by unfold disksN; omega
          have hDl : (ldN ls m).2.length = disksN ls m := by unfold disksN; omega
          have hD4 : 4 ≤ disksN ls m ∧ disksN ls m ≤ 60 := by unfold disksN; omega
          have c4 : w4.cell? ⟨wr.heap.size, 4, none⟩ = some (.int .i64 (disksN ls m : Nat)) := by rw [← hDd]; exact hb4.cell 4 rfl
          have HB4 := Lib.hid hb4
          have HXW4 : Hid (Ext w w4) := HX.out.trans hx4
          have HBW4 := Lib.hid (HB.out.ext hx4)
          have hg10 := hb4.lt
          have HDS : Hid (SliceAt Value.bool w4 (.slice ad (ldN ls m).2.length cd) (ldN ls m).2) := HD.out.ext HXW4.out
          obtain ⟨D, hDe⟩ : ∃ D, disksN ls m = D := ⟨_, rfl⟩
          have HDE := Lib.hid hDe
          rw [hDe] at c4 hD4 hDl
          have HDL := Lib.hid hDl
          rw [hDl] at HB4 HDS HD
          generalize hgs : wr.heap.size = g at *
          clear hDd hDl hDe hb4 hx4 hs4 hv1 hv2 hv3 hv4 hv5 hv6 hv7 hv8 HA HB HX hgs
          clear wr
          have hmk : ∀ w : World, (Instr.makeSlice 33 (.int .i64 (D : Int)) (.int .i64 (D : Int))).run Try.prog w = .ok (.slice (some ⟨w.heap.size, 0, none⟩) D D) (w.alloc (.cells (madeCells #[.int .i64 0] D) 3)) :=
            run_make_row' 33 3 (.int .i64 0) 8 Try.underlying33 infoI rfl .i64 .i64 D (by omega) (by first | omega | (unfold maxLen; omega))
          go_wp2_with fail
          have HO5 : Hid (OwnG encI 3 (w4.alloc (.cells (madeCells #[.int .i64 0] D) 3)) w4.heap.size (.slice (some ⟨w4.heap.size, 0, none⟩) D D) (fillN D 0)) := OwnG.made w4 D w4.heap.size (Nat.le_refl _) (by unfold maxLen; omega)
          have HX5 : Hid (Ext w4 (w4.alloc (.cells (madeCells #[.int .i64 0] D) 3))) := Ext.alloc _ _
          generalize w4.alloc (.cells (madeCells #[.int .i64 0] D) 3) = w5 at *
          clear hmk c4
          go_loopw [11] (fun dt wr => ∃ d : Nat, d ≤ D ∧ dt = .int .i64 d ∧ (∃ A, Hid (PartE ls rd m d A) ∧ Hid (OwnG encI 3 wr w4.heap.size (.slice (some ⟨w4.heap.size, 0, none⟩) D D) A)) ∧ Hid (Ext w4 wr)) (fun dt _ => D - (intOf dt).toNat)
          case atStart => exact ⟨0, Nat.zero_le _, rfl, ⟨_, Lib.hid (part_start HDE.out), HO5⟩, HX5⟩
          case round =>
            obtain ⟨d, hd, rfl, ⟨A, HP, HO⟩, HXr⟩ := hrel
            have HAL : Hid (A.length = D) := by show _ = _; rw [HP.out.1, HDE.out]
            by_cases hdD : d < D
            · have hdI : (d : Int) < (D : Int) := by omega
              have hd0 : (0 : Int) ≤ (d : Int) := by omega
              have hcj := HO.out.at HAL.out.symm (show d < A.length by rw [HAL.out]; exact hdD)
              have hfj := HO.out.frees HAL.out.symm d
              have hlj : w4.heap.size < wr.heap.size := (OwnG.lt HO.out w4.heap.size (by simp [Value.ownBlock])).2
              have HO6 : Hid (OwnG encI 3 (wr.setCell ⟨w4.heap.size, d, none⟩ (.int .i64 (-1))) w4.heap.size (.slice (some ⟨w4.heap.size, 0, none⟩) D D) (A.set d (El.downN (oldP ls rd m d) (-1) n (n - n)))) := by
                rw [Nat.sub_self]; exact HO.out.put HAL.out.symm d (-1)
              have HX6 : Hid (Ext w4 (wr.setCell ⟨w4.heap.size, d, none⟩ (.int .i64 (-1)))) := HXr.out.setOwn (Nat.le_refl _)
              have HAD : Hid (∀ z, (A.set d z).length = D) := fun z => by rw [List.length_set]; exact HAL.out
              have HPN := Lib.hid (part_next HP.out (by rw [HDE.out]; exact hdD))
              rw [HN1.out] at HPN
              generalize A[d]'(by rw [HAL.out]; exact hdD) = zj at *
              go_wp2_with fail
              generalize wr.setCell ⟨w4.heap.size, d, none⟩ (.int .i64 (-1)) = w6 at *
              clear hcj hfj hlj HO HP HXr
              clear wr
              go_loopw [12] (fun it wr => ∃ k : Nat, k ≤ n ∧ (∃ z : Int, it = .int .i64 z ∧ z = (k : Int) - 1) ∧ Hid (OwnG encI 3 wr w4.heap.size (.slice (some ⟨w4.heap.size, 0, none⟩) D D) (A.set d (El.downN (oldP ls rd m d) (-1) n (n - k)))) ∧ Hid (Ext w4 wr)) (fun it _ => (intOf it + 1).toNat)
              case atStart => exact ⟨n, Nat.le_refl _, ⟨_, rfl, rfl⟩, HO6, HX6⟩
              case round =>
                obtain ⟨k, hk, ⟨z, rfl, hz⟩, HO, HX⟩ := hrel
                cases k with
                | zero =>
                  have hz2 : z = -1 := by omega
                  clear hz
                  subst hz2
                  rw [Nat.sub_zero] at HO
                  generalize El.downN (oldP ls rd m d) (-1) n n = B at *
                  have HST : Hid (OwnG encI 3 wr w4.heap.size (.slice (some ⟨w4.heap.size, 0, none⟩) D D) (A.set d (El.downN (curP ls rd m d) B n (n - n)))) := by rw [Nat.sub_self]; exact HO.out
                  have HXs := HX
                  clear HO HX
                  generalize wr = wo at *
                  go_wp2_with fail
                  go_loopw [14] (fun it wr => ∃ k : Nat, k ≤ n ∧ (∃ z : Int, it = .int .i64 z ∧ z = (k : Int) - 1) ∧ Hid (OwnG encI 3 wr w4.heap.size (.slice (some ⟨w4.heap.size, 0, none⟩) D D) (A.set d (El.downN (curP ls rd m d) B n (n - k)))) ∧ Hid (Ext w4 wr)) (fun it _ => (intOf it + 1).toNat)
                  case atStart => exact ⟨n, Nat.le_refl _, ⟨_, rfl, rfl⟩, HST, HXs⟩
                  case round =>
                    obtain ⟨k, hk, ⟨z, rfl, hz⟩, HO, HX⟩ := hrel
                    cases k with
                    | zero =>
                      have hz2 : z = -1 := by omega
                      clear hz
                      subst hz2
                      rw [Nat.sub_zero] at HO
                      go_wp2_with fail
                      go_roundw
                      case rel => exact ⟨d + 1, by omega, by go_num, ⟨_, HPN, HO⟩, HX⟩
                      case measure => first | (simp [intOf]; done) | (simp [intOf]; omega)
                    | succ j =>
                      have hz2 : z = (j : Int) := by omega
                      clear hz
                      subst hz2
                      have hj0 : (0 : Int) ≤ (j : Int) := by omega
                      have hjn : j < n := by omega
                      have hjI : (j : Int) < (n : Int) := by omega
                      obtain ⟨bl', ol', hble, dvy, hAy, hDy⟩ := (HL.out.ext (HXW4.out.trans HX.out)).at j (by rw [HN1.out]; exact hjn)
                      cases hble
                      obtain ⟨ay, cy, rfl⟩ := hDy.shape
                      obtain ⟨br, or_, rfl, hbr, hcr⟩ := (HR.out.ext (HXW4.out.trans HX.out)).get j (by rw [HN2.out]; exact hjn)
                      rw [← getD_in (d := false) (show j < rd.length by rw [HN2.out]; exact hjn)] at hcr
                      have HV := Lib.hid (fun w' (e : Ext wr w') => rvalid_any (ldN ls j).1 _ _ w' (hdl j) (hDy.ext e))
                      have HE : Hid (∀ w', Ext wr w' → Calls Try.prog 15 #[labV (ldN ls j).1 (.slice ay (ldN ls j).2.length cy), labV (ldN ls m).1 (.slice ad D cd)] w' (BoolEnd w' (eqN ls j m))) := fun w' e => requal_any _ _ _ _ _ _ w' (hdl j) (hdl m) (hDy.ext e) ((HDS.out.ext HX.out).ext e)
                      have HPD : Hid (curP ls rd m d j = ((rd.getD j false && validL (ldN ls j).1 (ldN ls j).2) && (diskN ls j == d && (!(deadL ls m).getD (diskN ls j) false && eqN ls j m)))) := rfl
                      have HDN := Lib.hid (down_next (p := curP ls rd m d) (a := B) hjn)
                      have HAY := Lib.hid hAy
                      obtain ⟨qy, hqy⟩ : ∃ q, (ldN ls j).2.length = q := ⟨_, rfl⟩
                      have HQY := Lib.hid hqy
                      rw [hqy] at HV HE HAY
                      have HDD0 := Lib.hid ((HDS.out.ext HX.out).get d (by rw [HDL.out]; exact hdD))
                      have HXB := Lib.hid (HB4.out.ext HX.out)
                      obtain ⟨P, hPe⟩ : ∃ P, curP ls rd m d j = P := ⟨_, rfl⟩
                      rw [hPe] at HPD HDN
                      clear hAy hDy hPe hqy
                      go_upto_region 29 with fail
                      go_cut [201] (fun s wx => s = .bool P ∧ Hid (Ext wr wx))
                      case first =>
                        obtain ⟨r, hrr⟩ : ∃ r, rd.getD j false = r := ⟨_, rfl⟩
                        rw [hrr] at hcr HPD
                        have hbl := HAY.out.2
                        clear hrr
                        refine wp_region_ext [(0, true), (1, true), (2, true), (3, true), (4, true), (5, true), (6, true), (7, true), (8, true), (9, false), (10, true), (11, true), (12, true), (13, true), (14, true), (15, true), (16, true), (17, true), (18, true), (19, true), (20, true), (21, true), (22, true), (23, true), (24, true), (25, true), (26, true), (27, true), (28, true), (29, true), (30, true), (31, true), (32, true), (33, true), (34, false), (35, true)] (by kernel_rfl) (by kernel_rfl) ?_
                        iterate 5 (first
                         | (refine ext_move rfl rfl (by rfl) (by rfl) ?_; simp only [Act.put, List.setIfInBounds_toArray, List.set_cons_zero, List.set_cons_succ])
                         | (refine ext_assign rfl rfl (by rfl) (by rfl) ?_; simp only [Act.put, List.setIfInBounds_toArray, List.set_cons_zero, List.set_cons_succ])
                         | (refine ext_pick_t rfl rfl (by rfl) (by rfl) (by rfl) ?_; simp only [Act.put, List.setIfInBounds_toArray, List.set_cons_zero, List.set_cons_succ])
                         | (refine ext_pick_f rfl rfl (by rfl) (by rfl) (by rfl) ?_; simp only [Act.put, List.setIfInBounds_toArray, List.set_cons_zero, List.set_cons_succ])
                         | (apply ext_take rfl (by rfl)
                            · intro w' hS
                              have hSc := hS.cells
                              (try simp only [World.size_drew, World.cell?_drew] at hSc)
                              go_simp
                              (try simp (disch := omega) only [i64_id, u64_id, ↓IntWalk.iteOmega, Int.tdiv_eq_ediv_of_nonneg, Int.tmod_eq_emod_of_nonneg])
                              try rfl
                            simp only [Act.put, List.setIfInBounds_toArray, List.set_cons_zero, List.set_cons_succ])
                         | (refine ext_pass rfl (by rfl) ?_; simp only [Act.put, List.setIfInBounds_toArray, List.set_cons_zero, List.set_cons_succ]))
                        cases r with
                        | false =>
                          have hPF : P = false := HPD.out
                          subst hPF
                          iterate 4 (first
                           | (refine ext_move rfl rfl (by rfl) (by rfl) ?_; simp only [Act.put, List.setIfInBounds_toArray, List.set_cons_zero, List.set_cons_succ])
                           | (refine ext_assign rfl rfl (by rfl) (by rfl) ?_; simp only [Act.put, List.setIfInBounds_toArray, List.set_cons_zero, List.set_cons_succ])
                           | (refine ext_pick_t rfl rfl (by rfl) (by rfl) (by rfl) ?_; simp only [Act.put, List.setIfInBounds_toArray, List.set_cons_zero, List.set_cons_succ])
                           | (refine ext_pick_f rfl rfl (by rfl) (by rfl) (by rfl) ?_; simp only [Act.put, List.setIfInBounds_toArray, List.set_cons_zero, List.set_cons_succ])
                           | (apply ext_take rfl (by rfl)
                              · intro w' hS
                                have hSc := hS.cells
                                (try simp only [World.size_drew, World.cell?_drew] at hSc)
                                go_simp
                                (try simp (disch := omega) only [i64_id, u64_id, ↓IntWalk.iteOmega, Int.tdiv_eq_ediv_of_nonneg, Int.tmod_eq_emod_of_nonneg])
                                try rfl
                              simp only [Act.put, List.setIfInBounds_toArray, List.set_cons_zero, List.set_cons_succ])
                           | (refine ext_pass rfl (by rfl) ?_; simp only [Act.put, List.setIfInBounds_toArray, List.set_cons_zero, List.set_cons_succ]))
                          (refine ext_passE rfl (by rfl) (by first | (with_reducible exact Ext.refl _) | (with_reducible exact Ext.drew _)) ?_; simp only [Act.put, List.setIfInBounds_toArray, List.set_cons_zero, List.set_cons_succ])
                          iterate 24 (first
                           | (refine ext_move rfl rfl (by rfl) (by rfl) ?_; simp only [Act.put, List.setIfInBounds_toArray, List.set_cons_zero, List.set_cons_succ])
                           | (refine ext_assign rfl rfl (by rfl) (by rfl) ?_; simp only [Act.put, List.setIfInBounds_toArray, List.set_cons_zero, List.set_cons_succ])
                           | (refine ext_pick_t rfl rfl (by rfl) (by rfl) (by rfl) ?_; simp only [Act.put, List.setIfInBounds_toArray, List.set_cons_zero, List.set_cons_succ])
                           | (refine ext_pick_f rfl rfl (by rfl) (by rfl) (by rfl) ?_; simp only [Act.put, List.setIfInBounds_toArray, List.set_cons_zero, List.set_cons_succ])
                           | (apply ext_take rfl (by rfl)
                              · intro w' hS
                                have hSc := hS.cells
                                (try simp only [World.size_drew, World.cell?_drew] at hSc)
                                go_simp
                                (try simp (disch := omega) only [i64_id, u64_id, ↓IntWalk.iteOmega, Int.tdiv_eq_ediv_of_nonneg, Int.tmod_eq_emod_of_nonneg])
                                try rfl
                              simp only [Act.put, List.setIfInBounds_toArray, List.set_cons_zero, List.set_cons_succ])
                           | (refine ext_pass rfl (by rfl) ?_; simp only [Act.put, List.setIfInBounds_toArray, List.set_cons_zero, List.set_cons_succ]))
                          (refine ext_passE rfl (by rfl) (by first | (with_reducible exact Ext.refl _) | (with_reducible exact Ext.drew _)) ?_; simp only [Act.put, List.setIfInBounds_toArray, List.set_cons_zero, List.set_cons_succ])
                          (first
                           | (refine ext_move rfl rfl (by rfl) (by rfl) ?_; simp only [Act.put, List.setIfInBounds_toArray, List.set_cons_zero, List.set_cons_succ])
                           | (refine ext_assign rfl rfl (by rfl) (by rfl) ?_; simp only [Act.put, List.setIfInBounds_toArray, List.set_cons_zero, List.set_cons_succ])
                           | (refine ext_pick_t rfl rfl (by rfl) (by rfl) (by rfl) ?_; simp only [Act.put, List.setIfInBounds_toArray, List.set_cons_zero, List.set_cons_succ])
                           | (refine ext_pick_f rfl rfl (by rfl) (by rfl) (by rfl) ?_; simp only [Act.put, List.setIfInBounds_toArray, List.set_cons_zero, List.set_cons_succ])
                           | (apply ext_take rfl (by rfl)
                              · intro w' hS
                                have hSc := hS.cells
                                (try simp only [World.size_drew, World.cell?_drew] at hSc)
                                go_simp
                                (try simp (disch := omega) only [i64_id, u64_id, ↓IntWalk.iteOmega, Int.tdiv_eq_ediv_of_nonneg, Int.tmod_eq_emod_of_nonneg])
                                try rfl
                              simp only [Act.put, List.setIfInBounds_toArray, List.set_cons_zero, List.set_cons_succ])
                           | (refine ext_pass rfl (by rfl) ?_; simp only [Act.put, List.setIfInBounds_toArray, List.set_cons_zero, List.set_cons_succ]))
                          refine ext_nil ?_
                          go_wp2_with fail
                          go_meet
                          exact ⟨rfl, Ext.drew _⟩
                        | true =>
                          iterate 3 (first
                           | (refine ext_move rfl rfl (by rfl) (by rfl) ?_; simp only [Act.put, List.setIfInBounds_toArray, List.set_cons_zero, List.set_cons_succ])
                           | (refine ext_assign rfl rfl (by rfl) (by rfl) ?_; simp only [Act.put, List.setIfInBounds_toArray, List.set_cons_zero, List.set_cons_succ])
                           | (refine ext_pick_t rfl rfl (by rfl) (by rfl) (by rfl) ?_; simp only [Act.put, List.setIfInBounds_toArray, List.set_cons_zero, List.set_cons_succ])
                           | (refine ext_pick_f rfl rfl (by rfl) (by rfl) (by rfl) ?_; simp only [Act.put, List.setIfInBounds_toArray, List.set_cons_zero, List.set_cons_succ])
                           | (apply ext_take rfl (by rfl)
                              · intro w' hS
                                have hSc := hS.cells
                                (try simp only [World.size_drew, World.cell?_drew] at hSc)
                                go_simp
                                (try simp (disch := omega) only [i64_id, u64_id, ↓IntWalk.iteOmega, Int.tdiv_eq_ediv_of_nonneg, Int.tmod_eq_emod_of_nonneg])
                                try rfl
                              simp only [Act.put, List.setIfInBounds_toArray, List.set_cons_zero, List.set_cons_succ])
                           | (refine ext_pass rfl (by rfl) ?_; simp only [Act.put, List.setIfInBounds_toArray, List.set_cons_zero, List.set_cons_succ]))
                          (refine ext_load 32 rfl (by rfl) rfl (by rfl) (fun w' hS => (HAY.out.ext hS).load) ?_; simp only [Act.put, List.setIfInBounds_toArray, List.set_cons_zero, List.set_cons_succ])
                          refine ext_do rfl (by rfl) (fun K hK => ?_)
                          go_simp
                          go_at_call 16
                          refine (HV.out _ (Ext.drew _)).mono ?_
                          rintro e w2 ⟨rfl, hb2⟩
                          have HX2 : Hid (Ext wr w2) := (Ext.drew _).trans hb2
                          refine hK _ _ HX2.out ?_
                          clear hK K hb2
                          (try simp only [Act.put, List.setIfInBounds_toArray, List.set_cons_zero, List.set_cons_succ])
                          cases hvv : validL (ldN ls j).1 (ldN ls j).2 with
                          | false =>
                            rw [hvv] at HPD
                            have hPF : P = false := HPD.out
                            subst hPF
                            iterate 24 (first
                             | (refine ext_move rfl rfl (by rfl) (by rfl) ?_; simp only [Act.put, List.setIfInBounds_toArray, List.set_cons_zero, List.set_cons_succ])
                             | (refine ext_assign rfl rfl (by rfl) (by rfl) ?_; simp only [Act.put, List.setIfInBounds_toArray, List.set_cons_zero, List.set_cons_succ])
                             | (refine ext_pick_t rfl rfl (by rfl) (by rfl) (by rfl) ?_; simp only [Act.put, List.setIfInBounds_toArray, List.set_cons_zero, List.set_cons_succ])
                             | (refine ext_pick_f rfl rfl (by rfl) (by rfl) (by rfl) ?_; simp only [Act.put, List.setIfInBounds_toArray, List.set_cons_zero, List.set_cons_succ])
                             | (apply ext_take rfl (by rfl)
                                · intro w' hS
                                  have hSc := hS.cells
                                  (try simp only [World.size_drew, World.cell?_drew] at hSc)
                                  go_simp
                                  (try simp (disch := omega) only [i64_id, u64_id, ↓IntWalk.iteOmega, Int.tdiv_eq_ediv_of_nonneg, Int.tmod_eq_emod_of_nonneg])
                                  try rfl
                                simp only [Act.put, List.setIfInBounds_toArray, List.set_cons_zero, List.set_cons_succ])
                             | (refine ext_pass rfl (by rfl) ?_; simp only [Act.put, List.setIfInBounds_toArray, List.set_cons_zero, List.set_cons_succ]))
                            (refine ext_passE rfl (by rfl) (by first | (with_reducible exact Ext.refl _) | (with_reducible exact Ext.drew _)) ?_; simp only [Act.put, List.setIfInBounds_toArray, List.set_cons_zero, List.set_cons_succ])
                            (first
                             | (refine ext_move rfl rfl (by rfl) (by rfl) ?_; simp only [Act.put, List.setIfInBounds_toArray, List.set_cons_zero, List.set_cons_succ])
                             | (refine ext_assign rfl rfl (by rfl) (by rfl) ?_; simp only [Act.put, List.setIfInBounds_toArray, List.set_cons_zero, List.set_cons_succ])
                             | (refine ext_pick_t rfl rfl (by rfl) (by rfl) (by rfl) ?_; simp only [Act.put, List.setIfInBounds_toArray, List.set_cons_zero, List.set_cons_succ])
                             | (refine ext_pick_f rfl rfl (by rfl) (by rfl) (by rfl) ?_; simp only [Act.put, List.setIfInBounds_toArray, List.set_cons_zero, List.set_cons_succ])
                             | (apply ext_take rfl (by rfl)
                                · intro w' hS
                                  have hSc := hS.cells
                                  (try simp only [World.size_drew, World.cell?_drew] at hSc)
                                  go_simp
                                  (try simp (disch := omega) only [i64_id, u64_id, ↓IntWalk.iteOmega, Int.tdiv_eq_ediv_of_nonneg, Int.tmod_eq_emod_of_nonneg])
                                  try rfl
                                simp only [Act.put, List.setIfInBounds_toArray, List.set_cons_zero, List.set_cons_succ])
                             | (refine ext_pass rfl (by rfl) ?_; simp only [Act.put, List.setIfInBounds_toArray, List.set_cons_zero, List.set_cons_succ]))
                            refine ext_nil ?_
                            go_wp2_with fail
                            go_meet
                            exact ⟨rfl, HX2⟩
                          | true =>
                            rw [hvv] at HPD
                            have hvf := (valid_facts hvv).1
                            have hdk : (ldN ls j).1.disk = (diskN ls j : Int) := by unfold diskN; omega
                            have hLY := HAY.out.ext HX2.out
                            have HLY := Lib.hid hLY
                            have HLM := Lib.hid (LabAt.of_box (HXB.out.ext HX2.out))
                            have a1 := hLY.cell 1 (v := .int .i64 (diskN ls j : Nat)) (by rw [← hdk]; rfl)
                            have m15 := HLM.out.cell0 15 (v := .slice ad D cd) rfl
                            have hl1 := hLY.2
                            have hl2 := HLM.out.2
                            have HDJ : Hid (diskN ls j = d → (deadL ls m).getD (diskN ls j) false = (ldN ls m).2.getD d false) := fun e => by rw [e]; rfl
                            clear hvv hvf hdk hLY
                            generalize (deadL ls m).getD (diskN ls j) false = dd' at *
                            by_cases hdq : diskN ls j = d
                            · have hz := HDJ.out hdq
                              have d1 : ((diskN ls j : Int) == (d : Int)) = true := by rw [beq_iff_eq]; omega
                              have d2 : (diskN ls j == d) = true := by rw [beq_iff_eq]; exact hdq
                              rw [d2, hz] at HPD
                              clear hz hdq HDJ d2
                              generalize diskN ls j = dk at *
                              obtain ⟨bd, od_, rfl, hbd0, hcd0⟩ := HDD0.out
                              have hbd := Nat.lt_of_lt_of_le hbd0 HX2.out.size
                              have hcd := (HX2.out.cell _ _ hbd0).trans hcd0
                              rw [← getD_in (d := false) (show d < (ldN ls m).2.length by rw [HDL.out]; exact hdD)] at hcd
                              generalize (ldN ls m).2.getD d false = dd at *
                              clear hbd0 hcd0
                              cases dd with
                              | true =>
                                have hPF : P = false := HPD.out
                                subst hPF
                                iterate 24 (first
                                 | (refine ext_move rfl rfl (by rfl) (by rfl) ?_; simp only [Act.put, List.setIfInBounds_toArray, List.set_cons_zero, List.set_cons_succ])
                                 | (refine ext_assign rfl rfl (by rfl) (by rfl) ?_; simp only [Act.put, List.setIfInBounds_toArray, List.set_cons_zero, List.set_cons_succ])
                                 | (refine ext_pick_t rfl rfl (by rfl) (by rfl) (by rfl) ?_; simp only [Act.put, List.setIfInBounds_toArray, List.set_cons_zero, List.set_cons_succ])
                                 | (refine ext_pick_f rfl rfl (by rfl) (by rfl) (by rfl) ?_; simp only [Act.put, List.setIfInBounds_toArray, List.set_cons_zero, List.set_cons_succ])
                                 | (apply ext_take rfl (by rfl)
                                    · intro w' hS
                                      have hSc := hS.cells
                                      (try simp only [World.size_drew, World.cell?_drew] at hSc)
                                      go_simp
                                      (try simp (disch := omega) only [i64_id, u64_id, ↓IntWalk.iteOmega, Int.tdiv_eq_ediv_of_nonneg, Int.tmod_eq_emod_of_nonneg])
                                      try rfl
                                    simp only [Act.put, List.setIfInBounds_toArray, List.set_cons_zero, List.set_cons_succ])
                                 | (refine ext_pass rfl (by rfl) ?_; simp only [Act.put, List.setIfInBounds_toArray, List.set_cons_zero, List.set_cons_succ]))
                                (refine ext_passE rfl (by rfl) (by first | (with_reducible exact Ext.refl _) | (with_reducible exact Ext.drew _)) ?_; simp only [Act.put, List.setIfInBounds_toArray, List.set_cons_zero, List.set_cons_succ])
                                (first
                                 | (refine ext_move rfl rfl (by rfl) (by rfl) ?_; simp only [Act.put, List.setIfInBounds_toArray, List.set_cons_zero, List.set_cons_succ])
                                 | (refine ext_assign rfl rfl (by rfl) (by rfl) ?_; simp only [Act.put, List.setIfInBounds_toArray, List.set_cons_zero, List.set_cons_succ])
                                 | (refine ext_pick_t rfl rfl (by rfl) (by rfl) (by rfl) ?_; simp only [Act.put, List.setIfInBounds_toArray, List.set_cons_zero, List.set_cons_succ])
                                 | (refine ext_pick_f rfl rfl (by rfl) (by rfl) (by rfl) ?_; simp only [Act.put, List.setIfInBounds_toArray, List.set_cons_zero, List.set_cons_succ])
                                 | (apply ext_take rfl (by rfl)
                                    · intro w' hS
                                      have hSc := hS.cells
                                      (try simp only [World.size_drew, World.cell?_drew] at hSc)
                                      go_simp
                                      (try simp (disch := omega) only [i64_id, u64_id, ↓IntWalk.iteOmega, Int.tdiv_eq_ediv_of_nonneg, Int.tmod_eq_emod_of_nonneg])
                                      try rfl
                                    simp only [Act.put, List.setIfInBounds_toArray, List.set_cons_zero, List.set_cons_succ])
                                 | (refine ext_pass rfl (by rfl) ?_; simp only [Act.put, List.setIfInBounds_toArray, List.set_cons_zero, List.set_cons_succ]))
                                refine ext_nil ?_
                                go_wp2_with fail
                                go_meet
                                exact ⟨rfl, HX2⟩
                              | false =>
                                have hPE : P = eqN ls j m := by rw [HPD.out]; simp
                                subst hPE
                                iterate 22 (first
                                 | (refine ext_move rfl rfl (by rfl) (by rfl) ?_; simp only [Act.put, List.setIfInBounds_toArray, List.set_cons_zero, List.set_cons_succ])
                                 | (refine ext_assign rfl rfl (by rfl) (by rfl) ?_; simp only [Act.put, List.setIfInBounds_toArray, List.set_cons_zero, List.set_cons_succ])
                                 | (refine ext_pick_t rfl rfl (by rfl) (by rfl) (by rfl) ?_; simp only [Act.put, List.setIfInBounds_toArray, List.set_cons_zero, List.set_cons_succ])
                                 | (refine ext_pick_f rfl rfl (by rfl) (by rfl) (by rfl) ?_; simp only [Act.put, List.setIfInBounds_toArray, List.set_cons_zero, List.set_cons_succ])
                                 | (apply ext_take rfl (by rfl)
                                    · intro w' hS
                                      have hSc := hS.cells
                                      (try simp only [World.size_drew, World.cell?_drew] at hSc)
                                      go_simp
                                      (try simp (disch := omega) only [i64_id, u64_id, ↓IntWalk.iteOmega, Int.tdiv_eq_ediv_of_nonneg, Int.tmod_eq_emod_of_nonneg])
                                      try rfl
                                    simp only [Act.put, List.setIfInBounds_toArray, List.set_cons_zero, List.set_cons_succ])
                                 | (refine ext_pass rfl (by rfl) ?_; simp only [Act.put, List.setIfInBounds_toArray, List.set_cons_zero, List.set_cons_succ]))
                                (refine ext_load 32 rfl (by rfl) rfl (by rfl) (fun w' hS => (HLY.out.ext hS).load) ?_; simp only [Act.put, List.setIfInBounds_toArray, List.set_cons_zero, List.set_cons_succ])
                                (refine ext_load 32 rfl (by rfl) rfl (by rfl) (fun w' hS => (HLM.out.ext hS).load) ?_; simp only [Act.put, List.setIfInBounds_toArray, List.set_cons_zero, List.set_cons_succ])
                                refine ext_do rfl (by rfl) (fun K hK => ?_)
                                go_simp
                                go_at_call 15
                                refine (HE.out _ HX2.out).mono ?_
                                rintro e w3 ⟨rfl, hb3⟩
                                have HX3 : Hid (Ext wr w3) := HX2.out.trans hb3
                                refine hK _ _ hb3 ?_
                                clear hK K hb3
                                (try simp only [Act.put, List.setIfInBounds_toArray, List.set_cons_zero, List.set_cons_succ])
                                (first
                                 | (refine ext_move rfl rfl (by rfl) (by rfl) ?_; simp only [Act.put, List.setIfInBounds_toArray, List.set_cons_zero, List.set_cons_succ])
                                 | (refine ext_assign rfl rfl (by rfl) (by rfl) ?_; simp only [Act.put, List.setIfInBounds_toArray, List.set_cons_zero, List.set_cons_succ])
                                 | (refine ext_pick_t rfl rfl (by rfl) (by rfl) (by rfl) ?_; simp only [Act.put, List.setIfInBounds_toArray, List.set_cons_zero, List.set_cons_succ])
                                 | (refine ext_pick_f rfl rfl (by rfl) (by rfl) (by rfl) ?_; simp only [Act.put, List.setIfInBounds_toArray, List.set_cons_zero, List.set_cons_succ])
                                 | (apply ext_take rfl (by rfl)
                                    · intro w' hS
                                      have hSc := hS.cells
                                      (try simp only [World.size_drew, World.cell?_drew] at hSc)
                                      go_simp
                                      (try simp (disch := omega) only [i64_id, u64_id, ↓IntWalk.iteOmega, Int.tdiv_eq_ediv_of_nonneg, Int.tmod_eq_emod_of_nonneg])
                                      try rfl
                                    simp only [Act.put, List.setIfInBounds_toArray, List.set_cons_zero, List.set_cons_succ])
                                 | (refine ext_pass rfl (by rfl) ?_; simp only [Act.put, List.setIfInBounds_toArray, List.set_cons_zero, List.set_cons_succ]))
                                refine ext_nil ?_
                                go_wp2_with fail
                                go_meet
                                exact ⟨rfl, HX3⟩
                            · have d1 : ((diskN ls j : Int) == (d : Int)) = false := by rw [beq_eq_false_iff_ne]; omega
                              have d2 : (diskN ls j == d) = false := by rw [beq_eq_false_iff_ne]; exact hdq
                              have hPF : P = false := by rw [HPD.out, d2]; simp
                              subst hPF
                              clear hdq d2 HDJ HPD
                              iterate 24 (first
                               | (refine ext_move rfl rfl (by rfl) (by rfl) ?_; simp only [Act.put, List.setIfInBounds_toArray, List.set_cons_zero, List.set_cons_succ])
                               | (refine ext_assign rfl rfl (by rfl) (by rfl) ?_; simp only [Act.put, List.setIfInBounds_toArray, List.set_cons_zero, List.set_cons_succ])
                               | (refine ext_pick_t rfl rfl (by rfl) (by rfl) (by rfl) ?_; simp only [Act.put, List.setIfInBounds_toArray, List.set_cons_zero, List.set_cons_succ])
                               | (refine ext_pick_f rfl rfl (by rfl) (by rfl) (by rfl) ?_; simp only [Act.put, List.setIfInBounds_toArray, List.set_cons_zero, List.set_cons_succ])
                               | (apply ext_take rfl (by rfl)
                                  · intro w' hS
                                    have hSc := hS.cells
                                    (try simp only [World.size_drew, World.cell?_drew] at hSc)
                                    go_simp
                                    (try simp (disch := omega) only [i64_id, u64_id, ↓IntWalk.iteOmega, Int.tdiv_eq_ediv_of_nonneg, Int.tmod_eq_emod_of_nonneg])
                                    try rfl
                                  simp only [Act.put, List.setIfInBounds_toArray, List.set_cons_zero, List.set_cons_succ])
                               | (refine ext_pass rfl (by rfl) ?_; simp only [Act.put, List.setIfInBounds_toArray, List.set_cons_zero, List.set_cons_succ]))
                              (refine ext_passE rfl (by rfl) (by first | (with_reducible exact Ext.refl _) | (with_reducible exact Ext.drew _)) ?_; simp only [Act.put, List.setIfInBounds_toArray, List.set_cons_zero, List.set_cons_succ])
                              (first
                               | (refine ext_move rfl rfl (by rfl) (by rfl) ?_; simp only [Act.put, List.setIfInBounds_toArray, List.set_cons_zero, List.set_cons_succ])
                               | (refine ext_assign rfl rfl (by rfl) (by rfl) ?_; simp only [Act.put, List.setIfInBounds_toArray, List.set_cons_zero, List.set_cons_succ])
                               | (refine ext_pick_t rfl rfl (by rfl) (by rfl) (by rfl) ?_; simp only [Act.put, List.setIfInBounds_toArray, List.set_cons_zero, List.set_cons_succ])
                               | (refine ext_pick_f rfl rfl (by rfl) (by rfl) (by rfl) ?_; simp only [Act.put, List.setIfInBounds_toArray, List.set_cons_zero, List.set_cons_succ])
                               | (apply ext_take rfl (by rfl)
                                  · intro w' hS
                                    have hSc := hS.cells
                                    (try simp only [World.size_drew, World.cell?_drew] at hSc)
                                    go_simp
                                    (try simp (disch := omega) only [i64_id, u64_id, ↓IntWalk.iteOmega, Int.tdiv_eq_ediv_of_nonneg, Int.tmod_eq_emod_of_nonneg])
                                    try rfl
                                  simp only [Act.put, List.setIfInBounds_toArray, List.set_cons_zero, List.set_cons_succ])
                               | (refine ext_pass rfl (by rfl) ?_; simp only [Act.put, List.setIfInBounds_toArray, List.set_cons_zero, List.set_cons_succ]))
                              refine ext_nil ?_
                              go_wp2_with fail
                              go_meet
                              exact ⟨rfl, HX2⟩
                      case rest =>
                        obtain ⟨rfl, HXC⟩ := hcut
                        have HXc := Lib.hid (HX.out.trans HXC.out)
                        have HOc := Lib.hid (HO.out.ext HXC.out)
                        clear HDD0 HXB hcr hbr HPD HV HE HAY HO
                        cases P with
                        | false =>
                          have HD2 : Hid (El.downN (curP ls rd m d) B n (n - j) = El.downN (curP ls rd m d) B n (n - (j + 1))) := by show _ = _; rw [HDN.out]; rfl
                          go_wp2_with fail
                          go_roundw
                          case rel => exact ⟨j, by omega, ⟨_, rfl, rfl⟩, by rw [HD2.out]; exact HOc, HXc⟩
                          case measure => first | (simp [intOf]; done) | (simp [intOf]; omega)
                        | true =>
                          have HD2 : Hid (El.downN (curP ls rd m d) B n (n - j) = (j : Int)) := by show _ = _; rw [HDN.out]; rfl
                          have hlen' := HAD.out (El.downN (curP ls rd m d) B n (n - (j + 1)))
                          have hcj := HOc.out.at hlen'.symm (show d < (A.set d (El.downN (curP ls rd m d) B n (n - (j + 1)))).length by rw [hlen']; exact hdD)
                          have hfj := HOc.out.frees hlen'.symm d
                          have hlj : w4.heap.size < wc.heap.size := (OwnG.lt HOc.out w4.heap.size (by simp [Value.ownBlock])).2
                          have HO7 : Hid (OwnG encI 3 (wc.setCell ⟨w4.heap.size, d, none⟩ (.int .i64 j)) w4.heap.size (.slice (some ⟨w4.heap.size, 0, none⟩) D D) (A.set d (El.downN (curP ls rd m d) B n (n - j)))) := by
                            have := HOc.out.put hlen'.symm d (j : Int)
                            rw [List.set_set] at this
                            rw [HD2.out]; exact this
                          generalize (A.set d (El.downN (curP ls rd m d) B n (n - (j + 1))))[d]'(by rw [hlen']; exact hdD) = zz at *
                          clear hlen'
                          go_wp2_with fail
                          go_roundw
                          case rel => exact ⟨j, by omega, ⟨_, rfl, rfl⟩, HO7, HXc.out.setOwn (Nat.le_refl _)⟩
                          case measure => first | (simp [intOf]; done) | (simp [intOf]; omega)
                | succ j =>
                  have hz2 : z = (j : Int) := by omega
                  clear hz
                  subst hz2
                  have hj0 : (0 : Int) ≤ (j : Int) := by omega
                  have hjn : j < n := by omega
                  have hjI : (j : Int) < (n : Int) := by omega
                  obtain ⟨bl', ol', hble, dvy, hAy, hDy⟩ := (HL.out.ext (HXW4.out.trans HX.out)).at j (by rw [HN1.out]; exact hjn)
                  cases hble
                  obtain ⟨ay, cy, rfl⟩ := hDy.shape
                  obtain ⟨br, or_, rfl, hbr, hcr⟩ := (HR.out.ext (HXW4.out.trans HX.out)).get j (by rw [HN2.out]; exact hjn)
                  rw [← getD_in (d := false) (show j < rd.length by rw [HN2.out]; exact hjn)] at hcr
                  have HV := Lib.hid (fun w' (e : Ext wr w') => rvalid_any (ldN ls j).1 _ _ w' (hdl j) (hDy.ext e))
                  have HPD : Hid (oldP ls rd m d j = ((rd.getD j false && validL (ldN ls j).1 (ldN ls j).2) && (diskN ls j == d && (!(deadL ls m).getD (diskN ls j) false && (((un (ldN ls j).1.array == un (ldN ls m).1.array) && eqCfg (ldN ls j).1.c (ldN ls m).1.c) && (genN ls j == (ldN ls m).1.prev.toNat)))))) := rfl
                  have HDN := Lib.hid (down_next (p := oldP ls rd m d) (a := -1) hjn)
                  have HAY := Lib.hid hAy
                  obtain ⟨qy, hqy⟩ : ∃ q, (ldN ls j).2.length = q := ⟨_, rfl⟩
                  have HQY := Lib.hid hqy
                  rw [hqy] at HV
                  have hdd0 := (HDS.out.ext HX.out).get d (by rw [HDL.out]; exact hdD)
                  have HDD0 := Lib.hid hdd0
                  obtain ⟨P, hPe⟩ : ∃ P, oldP ls rd m d j = P := ⟨_, rfl⟩
                  rw [hPe] at HPD HDN
                  rw [hqy] at HAY
                  clear hAy hDy hPe hdd0 hqy
                  go_upto_region 24 with (first | (refine wpList_loadR 32 _ rfl (by rfl) rfl HAY.out.load ?_) | (refine wpList_store_lab (w0 := wr) (l := (ldN ls j).1) (d := .slice ay qy cy) _ _ rfl (by rfl) rfl rfl (BoxAt.new _ _ _) rfl rfl (Ext.alloc _ _) (Nat.le_refl _) ?_; intro w6 hx6 hb6 hs6))
                  have HX6r := Lib.hid hx6
                  have HB6 := Lib.hid hb6
                  have HBE6 := Lib.hid ((HB4.out.ext HX.out).ext hx6)
                  have hcr6 := (hx6.cell _ _ hbr).trans hcr
                  have hbr6 := Nat.lt_of_lt_of_le hbr hx6.size
                  clear hx6 hb6 hs6 hcr hbr
                  (try simp only [Act.put, List.setIfInBounds_toArray, List.set_cons_zero, List.set_cons_succ])
                  go_cut [154] (fun s wx => s = .bool P ∧ Hid (Ext wr wx))
                  case first =>
                    obtain ⟨r, hrr⟩ : ∃ r, rd.getD j false = r := ⟨_, rfl⟩
                    rw [hrr] at hcr6 HPD
                    clear hrr
                    cases r with
                    | false =>
                      have hPF : P = false := HPD.out
                      subst hPF
                      go_wp2_with fail
                      go_meet
                      exact ⟨rfl, HX6r⟩
                    | true =>
                      go_wp2_with (refine wpList_loadR 32 _ rfl (by rfl) rfl (LabAt.of_box HB6.out).load ?_)
                      go_at_call 16
                      refine (HV.out _ HX6r.out).mono ?_
                      rintro e w7 ⟨rfl, hx7⟩
                      have hLY := (LabAt.of_box HB6.out).ext hx7
                      have hLM := (LabAt.of_box HBE6.out).ext hx7
                      have HLY := Lib.hid hLY
                      have HLM := Lib.hid hLM
                      have HX7 : Hid (Ext wr w7) := HX6r.out.trans hx7
                      clear hx7 hcr6 hbr6
                      cases hvv : validL (ldN ls j).1 (ldN ls j).2 with
                      | false =>
                        rw [hvv] at HPD
                        have hPF : P = false := HPD.out
                        subst hPF
                        clear hLY hLM
                        go_wp2_with fail
                        go_meet
                        exact ⟨rfl, HX7⟩
                      | true =>
                        rw [hvv] at HPD
                        have hvf := (valid_facts hvv).1
                        have hdk : (ldN ls j).1.disk = (diskN ls j : Int) := by unfold diskN; omega
                        have a0 := hLY.cell0 0 (v := encU (ldN ls j).1.array) rfl
                        have a1 := hLY.cell0 1 (v := .int .i64 (diskN ls j : Nat)) (by rw [← hdk]; rfl)
                        have a2 := hLY.cell0 2 (v := .int .u64 (genN ls j : Nat)) rfl
                        have m0 := hLM.cell0 0 (v := encU (ldN ls m).1.array) rfl
                        have m3 := hLM.cell0 3 (v := .int .u64 ((ldN ls m).1.prev.toNat : Nat)) rfl
                        have m15 := hLM.cell0 15 (v := .slice ad D cd) rfl
                        have hl1 := hLY.2
                        have hl2 := hLM.2
                        have HCQ := Lib.hid (run_eq_cfg (ldN ls j).1.c (ldN ls m).1.c)
                        have HDJ : Hid (diskN ls j = d → (deadL ls m).getD (diskN ls j) false = (ldN ls m).2.getD d false) := fun e => by rw [e]; rfl
                        clear hvv hvf hdk hLY hLM
                        obtain ⟨x1, h1⟩ : ∃ z, (un (ldN ls j).1.array == un (ldN ls m).1.array) = z := ⟨_, rfl⟩
                        generalize (deadL ls m).getD (diskN ls j) false = dd' at *
                        generalize eqCfg (ldN ls j).1.c (ldN ls m).1.c = x2 at *
                        generalize genN ls j = Gj at *
                        generalize (ldN ls m).1.prev.toNat = Pm at *
                        rw [h1] at HPD
                        have hpi : ((Gj : Int) == (Pm : Int)) = (Gj == Pm) := by rw [Bool.eq_iff_iff, beq_iff_eq, beq_iff_eq]; omega
                        generalize (Gj == Pm) = pg at *
                        by_cases hdq : diskN ls j = d
                        · have hz := HDJ.out hdq
                          have d1 : ((diskN ls j : Int) == (d : Int)) = true := by rw [beq_iff_eq]; omega
                          have d2 : (diskN ls j == d) = true := by rw [beq_iff_eq]; exact hdq
                          rw [d2, hz] at HPD
                          clear hz hdq HDJ d2
                          generalize diskN ls j = dk at *
                          obtain ⟨bd, od_, rfl, hbd0, hcd0⟩ := HDD0.out
                          have hbd := Nat.lt_of_lt_of_le hbd0 HX7.out.size
                          have hcd := (HX7.out.cell _ _ hbd0).trans hcd0
                          rw [← getD_in (d := false) (show d < (ldN ls m).2.length by rw [HDL.out]; exact hdD)] at hcd
                          generalize (ldN ls m).2.getD d false = dd at *
                          clear hbd0 hcd0
                          have hcase : x1 = false ∧ P = false ∨ x1 = true ∧ (x2 = false ∧ P = false ∨ x2 = true ∧ (dd = true ∧ P = false ∨ dd = false ∧ P = pg)) := by
                            have := HPD.out
                            cases x1 <;> cases x2 <;> cases dd <;> simp at this ⊢ <;> exact this
                          have hcq := HCQ.out
                          clear HPD
                          rcases hcase with ⟨rfl, rfl⟩ | ⟨rfl, ⟨rfl, rfl⟩ | ⟨rfl, ⟨rfl, rfl⟩ | ⟨rfl, rfl⟩⟩⟩
                          all_goals
                            go_wp2_with (first | (refine wpList_loadR 30 _ rfl (by rfl) rfl HLY.out.cfg ?_) | (refine wpList_loadR 30 _ rfl (by rfl) rfl HLM.out.cfg ?_))
                            go_meet
                            exact ⟨rfl, HX7⟩
                        · have d1 : ((diskN ls j : Int) == (d : Int)) = false := by rw [beq_eq_false_iff_ne]; omega
                          have d2 : (diskN ls j == d) = false := by rw [beq_eq_false_iff_ne]; exact hdq
                          have hPF : P = false := by rw [HPD.out, d2]; simp
                          subst hPF
                          clear hdq d2 HDJ HPD
                          go_wp2_with fail
                          go_meet
                          exact ⟨rfl, HX7⟩
                  case rest =>
                    obtain ⟨rfl, HXC⟩ := hcut
                    have HXc := Lib.hid (HX.out.trans HXC.out)
                    have HOc := Lib.hid (HO.out.ext HXC.out)
                    clear HDD0 HB6 HBE6 hcr6 hbr6 HX6r HPD HV HAY HO
                    cases P with
                    | false =>
                      have HD2 : Hid (El.downN (oldP ls rd m d) (-1) n (n - j) = El.downN (oldP ls rd m d) (-1) n (n - (j + 1))) := by show _ = _; rw [HDN.out]; rfl
                      go_wp2_with fail
                      go_roundw
                      case rel => exact ⟨j, by omega, ⟨_, rfl, rfl⟩, by rw [HD2.out]; exact HOc, HXc⟩
                      case measure => first | (simp [intOf]; done) | (simp [intOf]; omega)
                    | true =>
                      have HD2 : Hid (El.downN (oldP ls rd m d) (-1) n (n - j) = (j : Int)) := by show _ = _; rw [HDN.out]; rfl
                      have hlen' := HAD.out (El.downN (oldP ls rd m d) (-1) n (n - (j + 1)))
                      have hcj := HOc.out.at hlen'.symm (show d < (A.set d (El.downN (oldP ls rd m d) (-1) n (n - (j + 1)))).length by rw [hlen']; exact hdD)
                      have hfj := HOc.out.frees hlen'.symm d
                      have hlj : w4.heap.size < wc.heap.size := (OwnG.lt HOc.out w4.heap.size (by simp [Value.ownBlock])).2
                      have HO7 : Hid (OwnG encI 3 (wc.setCell ⟨w4.heap.size, d, none⟩ (.int .i64 j)) w4.heap.size (.slice (some ⟨w4.heap.size, 0, none⟩) D D) (A.set d (El.downN (oldP ls rd m d) (-1) n (n - j)))) := by
                        have := HOc.out.put hlen'.symm d (j : Int)
                        rw [List.set_set] at this
                        rw [HD2.out]; exact this
                      generalize (A.set d (El.downN (oldP ls rd m d) (-1) n (n - (j + 1))))[d]'(by rw [hlen']; exact hdD) = zz at *
                      clear hlen'
                      go_wp2_with fail
                      go_roundw
                      case rel => exact ⟨j, by omega, ⟨_, rfl, rfl⟩, HO7, HXc.out.setOwn (Nat.le_refl _)⟩
                      case measure => first | (simp [intOf]; done) | (simp [intOf]; omega)
            · have hdD2 : D = d := by omega
              subst hdD2
              have hin3 : ¬ ((D : Int) < (D : Int)) := by omega
              have HAE : Hid (A = atE ls rd m) := part_end (by rw [HDE.out]; exact HP.out)
              rw [HAE.out] at HO HAL
              have HES := Lib.hid (errE_some HLEN.out HBE.out)
              have HCT := Lib.hid (fun (w' : World) (e : Ext wr w') => rcount_any _ (atE ls rd m) w' (by rw [HAL.out]; omega) (HO.out.slice.ext e))
              have hcle := cntN_le (atE ls rd m)
              rw [HAL.out] at hcle
              obtain ⟨N, hN⟩ : ∃ N, cntN (atE ls rd m) = N := ⟨_, rfl⟩
              rw [hN] at HES HCT hcle
              have HBW := Lib.hid (HBW4.out.ext HXr.out)
              have HBX := Lib.hid (HB4.out.ext HXr.out)
              have HXW := Lib.hid (HXW4.out.trans HXr.out)
              have hsw := HBW4.out.lt
              clear hN HP HAE
              go_wp2_with fail
              go_at_call 17
              refine (HCT.out _ (Ext.refl _)).mono ?_
              rintro e w8 ⟨rfl, rfl⟩
              by_cases h3 : 3 < N
              · have d5 : decide ((3 : Int) < (N : Int)) = true := by rw [decide_eq_true_iff]; omega
                have d6 : decide (3 < N) = true := by rw [decide_eq_true_iff]; exact h3
                have HER : Hid (errE ls rd = 12) := by show _ = _; rw [HES.out, if_pos h3]
                have hbad := bad_lab (ls := ls) (rd := rd) (by rw [HER.out]; decide)
                have HLB := Lib.hid hbad.1
                have HPL := Lib.hid hbad.2
                clear hbad h3
                go_wp2_with (refine wpList_store_lab (w0 := w) (l := ld0.1) (d := .slice none 0 0) _ _ rfl (by rfl) rfl rfl HBW.out rfl rfl HXW.out (Nat.le_refl _) ?_; intro w9 hx9 hb9 hs9)
                have hld := lab_result hb9
                refine bodyPost_ret (results_cell_tmp2 rfl _ _ rfl hld) rfl ⟨.slice none 0 0, .slice none 0 0, by rw [HER.out, HLB.out]; rfl, by rw [HLB.out]; exact SliceAt.nil, by rw [HPL.out]; exact SliceAt.nil, hx9⟩
              · have d5 : decide ((3 : Int) < (N : Int)) = false := by rw [decide_eq_false_iff_not]; omega
                have d6 : decide (3 < N) = false := by rw [decide_eq_false_iff_not]; exact h3
                have HER : Hid (errE ls rd = 0) := by show _ = _; rw [HES.out, if_neg h3]
                have hgood := good_lab HER.out HBE.out
                have HLB := Lib.hid hgood.1
                have HPL := Lib.hid hgood.2
                clear hgood h3
                go_wp2_with (first | (refine wpList_loadR 32 _ rfl (by rfl) rfl (LabAt.of_box HBX.out).load ?_) | (refine wpList_store_lab2 (w0 := w) (l := (ldN ls m).1) (d := .slice ad D cd) _ _ rfl (by rfl) rfl rfl HBW.out rfl rfl HXW.out (Nat.le_refl _) ?_; intro w9 hx9 hb9 ho9))
                have hld := lab_result hb9
                refine bodyPost_ret (results_cell_tmp2 rfl _ _ rfl hld) rfl ⟨.slice ad D cd, .slice (some ⟨w4.heap.size, 0, none⟩) D D, by rw [HER.out, HLB.out]; rfl, by rw [HLB.out]; exact HD.out.ext hx9, by rw [HPL.out]; exact (HO.out.other ho9 hsw).slice, hx9⟩
  · have d1 : ((ls.length : Int) == (rd.length : Int)) = false := by rw [beq_eq_false_iff_ne]; omega
    have d2 : ((ls.length : Int) != (rd.length : Int)) = true := by rw [bne, d1]; rfl
    have HER : Hid (errE ls rd = 1) := by show _ = _; unfold errE; rw [if_pos hlen]
    have hbad := bad_lab (ls := ls) (rd := rd) (by rw [HER.out]; decide)
    have HLB := Lib.hid hbad.1
    have HPL := Lib.hid hbad.2
    clear hbad
    clear hlen
    go_enter Try.func12, Try.ntmps12
    go_wp2_with (refine wpList_store_lab (w0 := w) (l := ld0.1) (d := .slice none 0 0) _ _ rfl (by rfl) rfl rfl HB1.out rfl rfl HE1.out (Nat.le_refl _) ?_; intro w2 hx2 hb2 hs2)
    have hld := lab_result hb2
    refine bodyPost_ret (results_cell_tmp2 rfl _ _ rfl hld) rfl ⟨.slice none 0 0, .slice none 0 0, by rw [HER.out, HLB.out]; rfl, by rw [HLB.out]; exact SliceAt.nil, by rw [HPL.out]; exact SliceAt.nil, hx2⟩
end Go.Proofs.Ytpmbbeflgifgaaa
