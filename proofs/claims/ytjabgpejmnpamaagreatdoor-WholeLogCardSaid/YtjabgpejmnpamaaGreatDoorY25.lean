/-
  Part 25 of the proof.
-/
import Derived.Test.YtjabgpejmnpamaaGreatDoorY20
set_option linter.unusedVariables false
namespace Go.Proofs.YtjabgpejmnpamaaGreatDoor
open Go.RowKit
theorem rwithin_any (n lo hi : Int) (w : World) :
    Calls Tryz.prog 41 #[.int .i64 n, .int .i64 lo, .int .i64 hi] w fun e w' => e = .returned (.bool (withinB n lo hi)) ∧ w = w' := by
  go_enter Tryz.func41, Tryz.ntmps41
  go_wp2
  all_goals go_ret
  all_goals exact ⟨ret_iff (by simp only [withinB, decide_eq_true_eq, Bool.false_eq_true]; constructor <;> intro h <;> first | exact False.elim h | omega), rfl⟩
theorem piece_within (g p : Int) : Lg.pieceB g p = (withinB g 0 4095 && withinB p 0 15) := by
  unfold Lg.pieceB withinB
  rw [Bool.eq_iff_iff, Bool.and_eq_true, decide_eq_true_eq, decide_eq_true_eq, decide_eq_true_eq]; omega
theorem mv_cases (x : Lg.Mv) :
    (withinB x.g 0 4095 = false ∧ Lg.okM x = false) ∨ (withinB x.g 0 4095 = true ∧ ((withinB x.p 0 15 = false ∧ Lg.okM x = false) ∨ (withinB x.p 0 15 = true ∧ ((x.k = -1 ∧ ((x.b = 0 ∧ Lg.okM x = true) ∨ (¬ x.b = 0 ∧ withinB x.k 0 59 = false ∧ Lg.okM x = false))) ∨
      (¬ x.k = -1 ∧ ((withinB x.k 0 59 = false ∧ Lg.okM x = false) ∨ (withinB x.k 0 59 = true ∧ ((withinB x.b 0 65535 = false ∧ Lg.okM x = false) ∨ (withinB x.b 0 65535 = true ∧ Lg.okM x = true))))))))) := by
  have h3 : Lg.okM x = decide ((0 ≤ x.g ∧ x.g < 4096 ∧ 0 ≤ x.p ∧ x.p < 16) ∧ (x.k = -1 ∧ x.b = 0 ∨ 0 ≤ x.k ∧ x.k < 60 ∧ 0 ≤ x.b ∧ x.b < 65536)) := by
    unfold Lg.okM Lg.pieceB Lg.placeB
    rw [Bool.eq_iff_iff, Bool.and_eq_true, decide_eq_true_eq, decide_eq_true_eq, decide_eq_true_eq]
  unfold withinB
  rw [h3]
  simp only [decide_eq_true_eq, decide_eq_false_iff_not]
  omega
set_option maxRecDepth 100000 in
set_option maxHeartbeats 12000000 in
theorem rrecvalid_any (r : Lg.Rec) (wv mv nv : Value) (w : World) (hsh : r.ws.length ≤ 70 ∧ r.ms.length ≤ 70 ∧ r.note.length ≤ 300) (h : RecIn w wv mv nv r) :
    Calls Tryz.prog 13 #[recV r wv mv nv] w fun e w' => e = .returned (.bool (Lg.validR r)) ∧ Ext w w' := by
  have HR := Lib.hid h
  obtain ⟨a1, c1, a2, c2, a3, c3, rfl, rfl, rfl⟩ := h.shape
  clear h
  obtain ⟨n1, h1⟩ : ∃ n, r.ws.length = n := ⟨_, rfl⟩
  obtain ⟨n2, h2⟩ : ∃ n, r.ms.length = n := ⟨_, rfl⟩
  obtain ⟨n3, h3⟩ : ∃ n, r.note.length = n := ⟨_, rfl⟩
  have hcs := lens_cases r h1 h2 h3
  have H1 := Lib.hid h1
  have H2 := Lib.hid h2
  have H3 := Lib.hid h3
  rw [h1, h2, h3] at HR ⊢
  have HVF : Hid (Lg.lensB r = false → Lg.validR r = false) := fun h => by unfold Lg.validR; rw [h]; rfl
  have HVT : Hid (Lg.lensB r = true → Lg.validR r = (r.ws.all Lg.okW && r.ms.all Lg.okM)) := fun h => by unfold Lg.validR; rw [h]; rfl
  have hs1 : n1 ≤ 70 := by rw [← h1]; exact hsh.1
  have hs2 : n2 ≤ 70 := by rw [← h2]; exact hsh.2.1
  clear h1 h2 h3 hsh
  have HX1 : Hid (Ext w (w.alloc (.cells (recA r (.slice a1 n1 c1) (.slice a2 n2 c2) (.slice a3 n3 c3)) 52))) := Ext.alloc _ _
  have HB1 : Hid (BoxAt (w.alloc (.cells (recA r (.slice a1 n1 c1) (.slice a2 n2 c2) (.slice a3 n3 c3)) 52)) w.heap.size (recA r (.slice a1 n1 c1) (.slice a2 n2 c2) (.slice a3 n3 c3)) 52) := BoxAt.new _ _ _
  rcases hcs with ⟨q1, hv⟩ | ⟨q1, ⟨q2, hv⟩ | ⟨q2, ⟨q3, hv⟩ | ⟨q3, ⟨q4, hv⟩ | ⟨q4, hv⟩⟩⟩⟩
  · rw [HVF.out hv]
    clear hv
    go_enter Tryz.func13, Tryz.ntmps13
    go_wp2_with fail
    go_ret
    exact ⟨rfl, HX1.out⟩
  · rw [HVF.out hv]
    clear hv
    go_enter Tryz.func13, Tryz.ntmps13
    go_wp2_with fail
    go_ret
    exact ⟨rfl, HX1.out⟩
  · rw [HVF.out hv]
    clear hv
    go_enter Tryz.func13, Tryz.ntmps13
    go_wp2_with fail
    go_ret
    exact ⟨rfl, HX1.out⟩
  · rw [HVF.out hv]
    clear hv
    go_enter Tryz.func13, Tryz.ntmps13
    go_wp2_with fail
    go_ret
    exact ⟨rfl, HX1.out⟩
  · rw [HVT.out hv]
    clear hv HVF HVT
    have hn1 : n1 ≤ 64 := by rw [decide_eq_false_iff_not] at q2; omega
    have hn2 : n2 ≤ 64 := by rw [decide_eq_false_iff_not] at q3; omega
    obtain ⟨V, hV⟩ : ∃ V, (r.ws.all Lg.okW && r.ms.all Lg.okM) = V := ⟨_, rfl⟩
    rw [hV]
    have HV := Lib.hid hV
    clear hV
    go_enter Tryz.func13, Tryz.ntmps13
    go_wp2_with fail
    generalize w.alloc (.cells (recA r (.slice a1 n1 c1) (.slice a2 n2 c2) (.slice a3 n3 c3)) 52) = w1 at *
    go_loopw [3] (fun it wr => ∃ i : Nat, i ≤ n1 ∧ it = .int .i64 i ∧ Hid (∀ j (hj : j < r.ws.length), j < i → Lg.okW r.ws[j] = true) ∧ Hid (Ext w1 wr)) (fun it _ => n1 - (intOf it).toNat)
    case atStart => exact ⟨0, Nat.zero_le _, rfl, Lib.hid fun j hj h => absurd h (by omega), Lib.hid (Ext.refl _)⟩
    case round =>
      obtain ⟨i, hi, rfl, HA, HX⟩ := hrel
      have g2 := (HB1.out.ext HX.out).cell 2 (v := .slice a1 n1 c1) rfl
      have gl := (HB1.out.ext HX.out).lt
      by_cases hlt : i < n1
      · have hin : (i : Int) < (n1 : Int) := by omega
        have hil : i < r.ws.length := by rw [H1.out]; exact hlt
        obtain ⟨b, off, rfl, hb, hr, h8⟩ := (HR.out.ws.ext (HX1.out.trans HX.out)).pw i hil
        have HST := Lib.hid (fun (h : Lg.okW r.ws[i] = true) => all_step HA.out (i := i) (fun _ => h))
        have HNO := Lib.hid (allB_not (p := Lg.okW) hil)
        have HOK : Hid (Lg.okW r.ws[i] = Lg.pieceB r.ws[i].g r.ws[i].p) := rfl
        generalize r.ws[i] = x at *
        have k2 := (HB1.out.ext HX.out).cell 2 (v := .slice (some ⟨b, off, none⟩) n1 c1) rfl
        have kl := (HB1.out.ext HX.out).lt
        have z0 := hr 0 (.int .i64 x.g) rfl
        have z1 := hr 1 (.int .i64 x.p) rfl
        rw [Nat.add_zero] at z0
        obtain ⟨q1', hq1⟩ : ∃ q, withinB x.g 0 4095 = q := ⟨_, rfl⟩
        obtain ⟨q2', hq2⟩ : ∃ q, withinB x.p 0 15 = q := ⟨_, rfl⟩
        have hpc : Lg.pieceB x.g x.p = (q1' && q2') := by rw [← hq1, ← hq2]; exact piece_within _ _
        rw [hpc] at HOK
        have B1 := Lib.hid hq1
        have B2 := Lib.hid hq2
        clear hq1 hq2 hpc h8 hr
        cases q1' with
        | false =>
          have HVV : Hid (V = false) := by show _ = _; rw [← HV.out, HNO.out HOK.out]; rfl
          go_wp2_with (go_at_call 41; refine (rwithin_any _ _ _ _).mono ?_; rintro e w' ⟨rfl, rfl⟩; first | rw [B1.out] | rw [B2.out])
          go_ret
          exact ⟨by rw [HVV.out]; rfl, HX1.out.trans HX.out⟩
        | true =>
          cases q2' with
          | false =>
            have HVV : Hid (V = false) := by show _ = _; rw [← HV.out, HNO.out HOK.out]; rfl
            go_wp2_with (go_at_call 41; refine (rwithin_any _ _ _ _).mono ?_; rintro e w' ⟨rfl, rfl⟩; first | rw [B1.out] | rw [B2.out])
            go_ret
            exact ⟨by rw [HVV.out]; rfl, HX1.out.trans HX.out⟩
          | true =>
            go_wp2_with (go_at_call 41; refine (rwithin_any _ _ _ _).mono ?_; rintro e w' ⟨rfl, rfl⟩; first | rw [B1.out] | rw [B2.out])
            go_roundw
            case rel => exact ⟨i + 1, by omega, by go_num, Lib.hid (HST.out HOK.out), HX⟩
            case measure => simp [intOf]; omega
      · have hin : i = n1 := by omega
        subst hin
        have hin2 : ¬ ((i : Int) < (i : Int)) := by omega
        have HW : Hid (r.ws.all Lg.okW = true) := all_of fun j hj => HA.out j hj (by rw [← H1.out]; exact hj)
        have HVV : Hid (V = r.ms.all Lg.okM) := by show _ = _; rw [← HV.out, HW.out, Bool.true_and]
        have hb := HB1.out.ext HX.out
        have HXA : Hid (Ext w wr) := HX1.out.trans HX.out
        have HB3 := Lib.hid hb
        clear HA hb HX HV
        go_wp2_with fail
        clear g2 gl
        generalize wr = w3 at *
        go_loopw [4] (fun it wr => ∃ i : Nat, i ≤ n2 ∧ it = .int .i64 i ∧ Hid (∀ j (hj : j < r.ms.length), j < i → Lg.okM r.ms[j] = true) ∧ Hid (Ext w3 wr)) (fun it _ => n2 - (intOf it).toNat)
        case atStart => exact ⟨0, Nat.zero_le _, rfl, Lib.hid fun j hj h => absurd h (by omega), Lib.hid (Ext.refl _)⟩
        case round =>
          obtain ⟨i, hi, rfl, HA, HX⟩ := hrel
          have g3 := (HB3.out.ext HX.out).cell 3 (v := .slice a2 n2 c2) rfl
          have gl := (HB3.out.ext HX.out).lt
          by_cases hlt : i < n2
          · have hin : (i : Int) < (n2 : Int) := by omega
            have hil : i < r.ms.length := by rw [H2.out]; exact hlt
            obtain ⟨b, off, rfl, hb, hr⟩ := (HR.out.ms.ext (HXA.out.trans HX.out)).mv i hil
            have HST := Lib.hid (fun (h : Lg.okM r.ms[i] = true) => all_step HA.out (i := i) (fun _ => h))
            have HNO := Lib.hid (allB_not (p := Lg.okM) hil)
            have hmc := mv_cases r.ms[i]
            generalize r.ms[i] = x at *
            obtain ⟨kk, hkk⟩ : ∃ kk, x.k = kk := ⟨_, rfl⟩
            obtain ⟨bb, hbb⟩ : ∃ bb, x.b = bb := ⟨_, rfl⟩
            rw [hkk, hbb] at hmc
            have EK := Lib.hid hkk
            have EB := Lib.hid hbb
            clear hkk hbb
            rcases hmc with ⟨b1, hok⟩ | ⟨b1, ⟨b2, hok⟩ | ⟨b2, ⟨e1, ⟨e2, hok⟩ | ⟨e2, b3, hok⟩⟩ | ⟨e1, ⟨b3, hok⟩ | ⟨b3, ⟨b4, hok⟩ | ⟨b4, hok⟩⟩⟩⟩⟩
            · have b2 : True := trivial; have b3 : True := trivial; have b4 : True := trivial
              have HVF : Hid (V = false) := by show _ = _; rw [HVV.out]; exact HNO.out hok
              clear hok HVV HNO HST
              go_wp2_with first | (refine wpList_loadR 98 _ rfl (by rfl) rfl (mv_load (x := x) hr) ?_) | (refine wpList_store_box 98 _ _ rfl (by rfl) rfl rfl (BoxAt.new wr mvZ 98) rfl (by kernel_rfl) (by simp [Value.oneCell']) ?_; intro W2 hS; have HX2 := Lib.hid (hS.fresh rfl); have k0 := hS.box.cell 0 (v := .int .i64 x.g) rfl; have k1 := hS.box.cell 1 (v := .int .i64 x.p) rfl; have k2 := hS.box.cell 2 (v := .int .i64 (kk)) (by rw [← EK.out]; rfl); have k3 := hS.box.cell 3 (v := .int .i64 (bb)) (by rw [← EB.out]; rfl); have kl := hS.box.lt; clear hS) | (go_at_call 41; refine (rwithin_any _ _ _ _).mono ?_; rintro e w' ⟨rfl, rfl⟩; first | rw [b1] | rw [b2] | rw [b3] | rw [b4])
              all_goals go_ret
              all_goals exact ⟨by rw [HVF.out]; rfl, HXA.out.trans (HX.out.trans HX2.out)⟩
            · have b3 : True := trivial; have b4 : True := trivial
              have HVF : Hid (V = false) := by show _ = _; rw [HVV.out]; exact HNO.out hok
              clear hok HVV HNO HST
              go_wp2_with first | (refine wpList_loadR 98 _ rfl (by rfl) rfl (mv_load (x := x) hr) ?_) | (refine wpList_store_box 98 _ _ rfl (by rfl) rfl rfl (BoxAt.new wr mvZ 98) rfl (by kernel_rfl) (by simp [Value.oneCell']) ?_; intro W2 hS; have HX2 := Lib.hid (hS.fresh rfl); have k0 := hS.box.cell 0 (v := .int .i64 x.g) rfl; have k1 := hS.box.cell 1 (v := .int .i64 x.p) rfl; have k2 := hS.box.cell 2 (v := .int .i64 (kk)) (by rw [← EK.out]; rfl); have k3 := hS.box.cell 3 (v := .int .i64 (bb)) (by rw [← EB.out]; rfl); have kl := hS.box.lt; clear hS) | (go_at_call 41; refine (rwithin_any _ _ _ _).mono ?_; rintro e w' ⟨rfl, rfl⟩; first | rw [b1] | rw [b2] | rw [b3] | rw [b4])
              all_goals go_ret
              all_goals exact ⟨by rw [HVF.out]; rfl, HXA.out.trans (HX.out.trans HX2.out)⟩
            · subst e1 e2
              have HOKK := Lib.hid hok
              clear hok HVV HA HNO
              go_upto_region 12 with first | (refine wpList_loadR 98 _ rfl (by rfl) rfl (mv_load (x := x) hr) ?_) | (refine wpList_store_box 98 _ _ rfl (by rfl) rfl rfl (BoxAt.new wr mvZ 98) rfl (by kernel_rfl) (by simp [Value.oneCell']) ?_; intro W2 hS; have HX2 := Lib.hid (hS.fresh rfl); have k0 := hS.box.cell 0 (v := .int .i64 x.g) rfl; have k1 := hS.box.cell 1 (v := .int .i64 x.p) rfl; have k2 := hS.box.cell 2 (v := .int .i64 (-1)) (by rw [← EK.out]; rfl); have k3 := hS.box.cell 3 (v := .int .i64 (0)) (by rw [← EB.out]; rfl); have kl := hS.box.lt; clear hS)
              go_upto_if 102 with (go_at_call 41; refine (rwithin_any _ _ _ _).mono ?_; rintro e w' ⟨rfl, rfl⟩; first | rw [b1] | rw [b2] | rw [b3] | rw [b4])
              go_wp2_with fail
              go_roundw
              case rel => exact ⟨i + 1, by omega, by go_num, Lib.hid (HST.out HOKK.out), HX.out.trans HX2.out⟩
              case measure => simp [intOf]; omega
            · subst e1
              have e2' : (bb == 0) = false := beq_eq_false_iff_ne.2 e2
              clear e2
              have HVF : Hid (V = false) := by show _ = _; rw [HVV.out]; exact HNO.out hok
              clear hok HVV HNO HST HA
              go_upto_region 12 with first | (refine wpList_loadR 98 _ rfl (by rfl) rfl (mv_load (x := x) hr) ?_) | (refine wpList_store_box 98 _ _ rfl (by rfl) rfl rfl (BoxAt.new wr mvZ 98) rfl (by kernel_rfl) (by simp [Value.oneCell']) ?_; intro W2 hS; have HX2 := Lib.hid (hS.fresh rfl); have k0 := hS.box.cell 0 (v := .int .i64 x.g) rfl; have k1 := hS.box.cell 1 (v := .int .i64 x.p) rfl; have k2 := hS.box.cell 2 (v := .int .i64 (-1)) (by rw [← EK.out]; rfl); have k3 := hS.box.cell 3 (v := .int .i64 (bb)) (by rw [← EB.out]; rfl); have kl := hS.box.lt; clear hS)
              go_upto_if 102 with (go_at_call 41; refine (rwithin_any _ _ _ _).mono ?_; rintro e w' ⟨rfl, rfl⟩; first | rw [b1] | rw [b2] | rw [b3] | rw [b4])
              go_wp2_with fail
              go_ret
              exact ⟨by rw [HVF.out]; rfl, HXA.out.trans (HX.out.trans HX2.out)⟩
            · have b4 : True := trivial
              have HVF : Hid (V = false) := by show _ = _; rw [HVV.out]; exact HNO.out hok
              clear hok HVV HNO HST
              go_wp2_with first | (refine wpList_loadR 98 _ rfl (by rfl) rfl (mv_load (x := x) hr) ?_) | (refine wpList_store_box 98 _ _ rfl (by rfl) rfl rfl (BoxAt.new wr mvZ 98) rfl (by kernel_rfl) (by simp [Value.oneCell']) ?_; intro W2 hS; have HX2 := Lib.hid (hS.fresh rfl); have k0 := hS.box.cell 0 (v := .int .i64 x.g) rfl; have k1 := hS.box.cell 1 (v := .int .i64 x.p) rfl; have k2 := hS.box.cell 2 (v := .int .i64 (kk)) (by rw [← EK.out]; rfl); have k3 := hS.box.cell 3 (v := .int .i64 (bb)) (by rw [← EB.out]; rfl); have kl := hS.box.lt; clear hS) | (go_at_call 41; refine (rwithin_any _ _ _ _).mono ?_; rintro e w' ⟨rfl, rfl⟩; first | rw [b1] | rw [b2] | rw [b3] | rw [b4])
              all_goals go_ret
              all_goals exact ⟨by rw [HVF.out]; rfl, HXA.out.trans (HX.out.trans HX2.out)⟩
            · have b5 : True := trivial
              have HVF : Hid (V = false) := by show _ = _; rw [HVV.out]; exact HNO.out hok
              clear hok HVV HNO HST
              go_wp2_with first | (refine wpList_loadR 98 _ rfl (by rfl) rfl (mv_load (x := x) hr) ?_) | (refine wpList_store_box 98 _ _ rfl (by rfl) rfl rfl (BoxAt.new wr mvZ 98) rfl (by kernel_rfl) (by simp [Value.oneCell']) ?_; intro W2 hS; have HX2 := Lib.hid (hS.fresh rfl); have k0 := hS.box.cell 0 (v := .int .i64 x.g) rfl; have k1 := hS.box.cell 1 (v := .int .i64 x.p) rfl; have k2 := hS.box.cell 2 (v := .int .i64 (kk)) (by rw [← EK.out]; rfl); have k3 := hS.box.cell 3 (v := .int .i64 (bb)) (by rw [← EB.out]; rfl); have kl := hS.box.lt; clear hS) | (go_at_call 41; refine (rwithin_any _ _ _ _).mono ?_; rintro e w' ⟨rfl, rfl⟩; first | rw [b1] | rw [b2] | rw [b3] | rw [b4])
              all_goals go_ret
              all_goals exact ⟨by rw [HVF.out]; rfl, HXA.out.trans (HX.out.trans HX2.out)⟩
            · have b5 : True := trivial
              have HOKK := Lib.hid hok
              clear hok
              go_wp2_with first | (refine wpList_loadR 98 _ rfl (by rfl) rfl (mv_load (x := x) hr) ?_) | (refine wpList_store_box 98 _ _ rfl (by rfl) rfl rfl (BoxAt.new wr mvZ 98) rfl (by kernel_rfl) (by simp [Value.oneCell']) ?_; intro W2 hS; have HX2 := Lib.hid (hS.fresh rfl); have k0 := hS.box.cell 0 (v := .int .i64 x.g) rfl; have k1 := hS.box.cell 1 (v := .int .i64 x.p) rfl; have k2 := hS.box.cell 2 (v := .int .i64 (kk)) (by rw [← EK.out]; rfl); have k3 := hS.box.cell 3 (v := .int .i64 (bb)) (by rw [← EB.out]; rfl); have kl := hS.box.lt; clear hS) | (go_at_call 41; refine (rwithin_any _ _ _ _).mono ?_; rintro e w' ⟨rfl, rfl⟩; first | rw [b1] | rw [b2] | rw [b3] | rw [b4])
              go_roundw
              case rel => exact ⟨i + 1, by omega, by go_num, Lib.hid (HST.out HOKK.out), HX.out.trans HX2.out⟩
              case measure => simp [intOf]; omega
          · have hin : i = n2 := by omega
            subst hin
            have hin2 : ¬ ((i : Int) < (i : Int)) := by omega
            have HW : Hid (r.ms.all Lg.okM = true) := all_of fun j hj => HA.out j hj (by rw [← H2.out]; exact hj)
            go_wp2_with fail
            go_ret
            exact ⟨by rw [HVV.out, HW.out]; rfl, HXA.out.trans HX.out⟩
end Go.Proofs.YtjabgpejmnpamaaGreatDoor
