/-
  Part 20 of the proof.
-/
import Derived.Test.YtjabgpejmnpamaaGreatDoorY18
set_option linter.unusedVariables false
namespace Go.Proofs.YtjabgpejmnpamaaGreatDoor
open Go.RowKit
theorem piece_any (g p : Int) (w : World) :
    Calls Tryz.prog 133 #[.int .i64 g, .int .i64 p] w fun e w' => e = .returned (.bool (Lg.pieceB g p)) ∧ w = w' := by
  go_enter Tryz.func133, Tryz.ntmps133
  go_wp2
  all_goals go_ret
  all_goals exact ⟨ret_iff (by simp only [Lg.pieceB, decide_eq_true_eq, Bool.false_eq_true]; constructor <;> intro h <;> first | exact False.elim h | omega), rfl⟩
theorem place_any (k b : Int) (w : World) :
    Calls Tryz.prog 134 #[.agg #[.int .i64 k, .int .i64 b]] w fun e w' => e = .returned (.bool (Lg.placeB k b)) ∧ Ext w w' := by
  by_cases hk : k = -1
  · have h1 : (k == -1) = true := by rw [beq_iff_eq]; exact hk
    have h2 : (k != -1) = false := by rw [bne, h1]; rfl
    have HV : Hid (Lg.placeB k b = (b == 0)) := by
      show _ = _
      unfold Lg.placeB
      rw [Bool.eq_iff_iff, decide_eq_true_eq, beq_iff_eq]; omega
    rw [HV.out]
    clear hk
    go_enter Tryz.func134, Tryz.ntmps134
    go_wp2_with fail
    all_goals go_ret
    all_goals exact ⟨rfl, Ext.alloc _ _⟩
  · have h1 : (k == -1) = false := by rw [beq_eq_false_iff_ne]; exact hk
    have h2 : (k != -1) = true := by rw [bne, h1]; rfl
    have HK := Lib.hid hk
    clear hk
    go_enter Tryz.func134, Tryz.ntmps134
    go_wp2_with fail
    all_goals go_ret
    all_goals exact ⟨ret_iff (by have := HK.out; simp only [Lg.placeB, decide_eq_true_eq, Bool.false_eq_true]; constructor <;> intro h <;> first | exact False.elim h | omega), Ext.alloc _ _⟩
set_option maxRecDepth 100000 in
theorem short_any (r : Lg.Rec) (wv mv nv : Value) (w : World) (h : RecIn w wv mv nv r) :
    Calls Tryz.prog 12 #[recV r wv mv nv] w fun e w' => e = .returned (.bool (Lg.shortR r)) ∧ Ext w w' := by
  obtain ⟨a1, c1, a2, c2, a3, c3, rfl, rfl, rfl⟩ := h.shape
  clear h
  obtain ⟨n1, h1⟩ : ∃ n, r.ws.length = n := ⟨_, rfl⟩
  obtain ⟨n2, h2⟩ : ∃ n, r.ms.length = n := ⟨_, rfl⟩
  obtain ⟨n3, h3⟩ : ∃ n, r.note.length = n := ⟨_, rfl⟩
  have HV : Hid (Lg.shortR r = decide (n1 ≤ 70 ∧ n2 ≤ 70 ∧ n3 ≤ 300)) := by show _ = _; unfold Lg.shortR; rw [h1, h2, h3]
  rw [h1, h2, h3, HV.out]
  clear h1 h2 h3
  go_enter Tryz.func12, Tryz.ntmps12
  go_wp2_with fail
  all_goals go_ret
  all_goals exact ⟨ret_iff (by simp only [Bool.and_eq_true, decide_eq_true_eq, Bool.false_eq_true]; constructor <;> intro h <;> first | exact False.elim h | omega), Ext.alloc _ _⟩
abbrev pwZ : Array Value := #[.int .i64 0, .int .i64 0, .int .u64 0, .int .u8 0, .int .u8 0, .int .u8 0, .int .u8 0, .int .u8 0, .int .u8 0, .int .u8 0, .int .u8 0]
abbrev mvZ : Array Value := #[.int .i64 0, .int .i64 0, .int .i64 0, .int .i64 0]
theorem all_of {α : Type} {l : List α} {p : α → Bool} (h : ∀ j (hj : j < l.length), p l[j] = true) : l.all p = true := by
  rw [List.all_eq_true]
  intro x hx
  obtain ⟨j, hj, rfl⟩ := List.mem_iff_getElem.1 hx
  exact h j hj
theorem allB_not {α : Type} {l : List α} {p : α → Bool} {j : Nat} (hj : j < l.length) (h : p l[j] = false) : l.all p = false := by
  cases ha : l.all p with
  | false => rfl
  | true =>
    have := List.all_eq_true.1 ha _ (List.getElem_mem hj)
    rw [h] at this; cases this
theorem all_step {α : Type} {l : List α} {p : α → Bool} {i : Nat} (h : ∀ j (hj : j < l.length), j < i → p l[j] = true) (hi : ∀ h : i < l.length, p l[i] = true) : ∀ j (hj : j < l.length), j < i + 1 → p l[j] = true := by
  intro j hj hji
  rcases Nat.lt_or_ge j i with h' | h'
  · exact h j hj h'
  · have : j = i := by omega
    subst this
    exact hi hj
theorem place_load {w : World} {g : Nat} {x : Lg.Mv} {t : TypeId} (h : BoxAt w g (mvA x) t) : (Instr.loadAt 96 (.pointer (some ⟨g, 2, none⟩))).run Tryz.prog w = .ok (.agg #[.int .i64 x.k, .int .i64 x.b]) w :=
  run_loadAt_mid w g 2 _ [.int .i64 x.k, .int .i64 x.b] _ (fun j v hj => by
    refine h.cell (2 + j) ?_
    obtain ⟨hj2, rfl⟩ := List.getElem?_eq_some_iff.1 hj
    have hj2 : j < 2 := hj2
    clear hj
    match j, hj2 with
    | 0, _ => rfl
    | 1, _ => rfl) Tryz.underlying96 rfl info_place
theorem lens_cases (r : Lg.Rec) {n1 n2 n3 : Nat} (h1 : r.ws.length = n1) (h2 : r.ms.length = n2) (h3 : r.note.length = n3) :
    (decide (un r.seq < 1) = true ∧ Lg.lensB r = false) ∨ (decide (un r.seq < 1) = false ∧ ((decide ((64 : Int) < n1) = true ∧ Lg.lensB r = false) ∨ (decide ((64 : Int) < n1) = false ∧ ((decide ((64 : Int) < n2) = true ∧ Lg.lensB r = false) ∨ (decide ((64 : Int) < n2) = false ∧ ((decide ((256 : Int) < n3) = true ∧ Lg.lensB r = false) ∨ (decide ((256 : Int) < n3) = false ∧ Lg.lensB r = true))))))) := by
  unfold Lg.lensB un
  rw [h1, h2, h3]
  simp only [decide_eq_true_eq, decide_eq_false_iff_not]
  omega
set_option maxRecDepth 100000 in
set_option maxHeartbeats 2000000 in
theorem recvalid_any (r : Lg.Rec) (wv mv nv : Value) (w : World) (h : RecIn w wv mv nv r) :
    Calls Tryz.prog 84 #[recV r wv mv nv] w fun e w' => e = .returned (.bool (Lg.validR r)) ∧ Ext w w' := by
  have HR := Lib.hid h
  obtain ⟨a1, c1, a2, c2, a3, c3, rfl, rfl, rfl⟩ := h.shape
  clear h
  obtain ⟨n1, h1⟩ : ∃ n, r.ws.length = n := ⟨_, rfl⟩
  obtain ⟨n2, h2⟩ : ∃ n, r.ms.length = n := ⟨_, rfl⟩
  obtain ⟨n3, h3⟩ : ∃ n, r.note.length = n := ⟨_, rfl⟩
  have hcs := lens_cases r h1 h2 h3
  have H1 := Lib.hid h1
  have H2 := Lib.hid h2
  have H3 := Lib.hid h3
  rw [h1, h2, h3] at HR ⊢
  have HVF : Hid (Lg.lensB r = false → Lg.validR r = false) := fun h => by unfold Lg.validR; rw [h]; rfl
  have HVT : Hid (Lg.lensB r = true → Lg.validR r = (r.ws.all Lg.okW && r.ms.all Lg.okM)) := fun h => by unfold Lg.validR; rw [h]; rfl
  clear h1 h2 h3
  have HX1 : Hid (Ext w (w.alloc (.cells (recA r (.slice a1 n1 c1) (.slice a2 n2 c2) (.slice a3 n3 c3)) 52))) := Ext.alloc _ _
  have HB1 : Hid (BoxAt (w.alloc (.cells (recA r (.slice a1 n1 c1) (.slice a2 n2 c2) (.slice a3 n3 c3)) 52)) w.heap.size (recA r (.slice a1 n1 c1) (.slice a2 n2 c2) (.slice a3 n3 c3)) 52) := BoxAt.new _ _ _
  rcases hcs with ⟨q1, hv⟩ | ⟨q1, ⟨q2, hv⟩ | ⟨q2, ⟨q3, hv⟩ | ⟨q3, ⟨q4, hv⟩ | ⟨q4, hv⟩⟩⟩⟩
  · rw [HVF.out hv]
    clear hv
    go_enter Tryz.func84, Tryz.ntmps84
    go_wp2_with fail
    go_ret
    exact ⟨rfl, HX1.out⟩
  · rw [HVF.out hv]
    clear hv
    go_enter Tryz.func84, Tryz.ntmps84
    go_wp2_with fail
    go_ret
    exact ⟨rfl, HX1.out⟩
  · rw [HVF.out hv]
    clear hv
    go_enter Tryz.func84, Tryz.ntmps84
    go_wp2_with fail
    go_ret
    exact ⟨rfl, HX1.out⟩
  · rw [HVF.out hv]
    clear hv
    go_enter Tryz.func84, Tryz.ntmps84
    go_wp2_with fail
    go_ret
    exact ⟨rfl, HX1.out⟩
  · rw [HVT.out hv]
    clear hv HVF HVT
    have hn1 : n1 ≤ 64 := by rw [decide_eq_false_iff_not] at q2; omega
    have hn2 : n2 ≤ 64 := by rw [decide_eq_false_iff_not] at q3; omega
    obtain ⟨V, hV⟩ : ∃ V, (r.ws.all Lg.okW && r.ms.all Lg.okM) = V := ⟨_, rfl⟩
    rw [hV]
    have HV := Lib.hid hV
    clear hV
    go_enter Tryz.func84, Tryz.ntmps84
    go_wp2_with fail
    generalize w.alloc (.cells (recA r (.slice a1 n1 c1) (.slice a2 n2 c2) (.slice a3 n3 c3)) 52) = w1 at *
    go_loopw [31] (fun it wr => ∃ i : Nat, i ≤ n1 ∧ it = .int .i64 i ∧ Hid (∀ j (hj : j < r.ws.length), j < i → Lg.okW r.ws[j] = true) ∧ Hid (Ext w1 wr)) (fun it _ => n1 - (intOf it).toNat)
    case atStart => exact ⟨0, Nat.zero_le _, rfl, Lib.hid fun j hj h => absurd h (by omega), Lib.hid (Ext.refl _)⟩
    case round =>
      obtain ⟨i, hi, rfl, HA, HX⟩ := hrel
      by_cases hlt : i < n1
      · have hin : (i : Int) < (n1 : Int) := by omega
        have hil : i < r.ws.length := by rw [H1.out]; exact hlt
        obtain ⟨b, off, rfl, hb, hr, h8⟩ := (HR.out.ws.ext (HX1.out.trans HX.out)).pw i hil
        have HST := Lib.hid (fun (h : Lg.okW r.ws[i] = true) => all_step HA.out (i := i) (fun _ => h))
        have HNO := Lib.hid (allB_not (p := Lg.okW) hil)
        have HOK : Hid (Lg.okW r.ws[i] = Lg.pieceB r.ws[i].g r.ws[i].p) := rfl
        generalize r.ws[i] = x at *
        obtain ⟨q, hq⟩ : ∃ q, Lg.pieceB x.g x.p = q := ⟨_, rfl⟩
        rw [hq] at HOK
        have HQ := Lib.hid hq
        clear hq h8
        cases q with
        | false =>
          have HVV : Hid (V = false) := by show _ = _; rw [← HV.out, HNO.out HOK.out]; rfl
          go_wp2_with first | (refine wpList_loadR 94 _ rfl (by rfl) rfl (pw_load hr) ?_) | (refine wpList_store_box 94 _ _ rfl (by rfl) rfl rfl (BoxAt.new wr pwZ 94) rfl (by kernel_rfl) (by simp [Value.oneCell']) ?_; intro W2 hS; have HX2 := Lib.hid (hS.fresh rfl); have HB2 := Lib.hid hS.box; have k0 := hS.box.cell 0 (v := .int .i64 x.g) rfl; have k1 := hS.box.cell 1 (v := .int .i64 x.p) rfl; have kl := hS.box.lt; clear hS) | (go_at_call 133; refine (piece_any _ _ _).mono ?_; rintro e w' ⟨rfl, rfl⟩; rw [HQ.out])
          go_ret
          exact ⟨by rw [HVV.out]; rfl, HX1.out.trans (HX.out.trans HX2.out)⟩
        | true =>
          go_wp2_with first | (refine wpList_loadR 94 _ rfl (by rfl) rfl (pw_load hr) ?_) | (refine wpList_store_box 94 _ _ rfl (by rfl) rfl rfl (BoxAt.new wr pwZ 94) rfl (by kernel_rfl) (by simp [Value.oneCell']) ?_; intro W2 hS; have HX2 := Lib.hid (hS.fresh rfl); have HB2 := Lib.hid hS.box; have k0 := hS.box.cell 0 (v := .int .i64 x.g) rfl; have k1 := hS.box.cell 1 (v := .int .i64 x.p) rfl; have kl := hS.box.lt; clear hS) | (go_at_call 133; refine (piece_any _ _ _).mono ?_; rintro e w' ⟨rfl, rfl⟩; rw [HQ.out])
          go_roundw
          case rel => exact ⟨i + 1, by omega, by go_num, Lib.hid (HST.out HOK.out), HX.out.trans HX2.out⟩
          case measure => simp [intOf]; omega
      · have hin : i = n1 := by omega
        subst hin
        have hin2 : ¬ ((i : Int) < (i : Int)) := by omega
        have HW : Hid (r.ws.all Lg.okW = true) := all_of fun j hj => HA.out j hj (by rw [← H1.out]; exact hj)
        have HVV : Hid (V = r.ms.all Lg.okM) := by show _ = _; rw [← HV.out, HW.out, Bool.true_and]
        have hb := HB1.out.ext HX.out
        have k3 := hb.cell 3 (v := .slice a2 n2 c2) rfl
        have kl := hb.lt
        have HXA : Hid (Ext w wr) := HX1.out.trans HX.out
        clear HA hb HX HV
        go_wp2_with fail
        generalize wr = w3 at *
        clear k3 kl
        go_loopw [45] (fun it wr => ∃ i : Nat, i ≤ n2 ∧ it = .int .i64 i ∧ Hid (∀ j (hj : j < r.ms.length), j < i → Lg.okM r.ms[j] = true) ∧ Hid (Ext w3 wr)) (fun it _ => n2 - (intOf it).toNat)
        case atStart => exact ⟨0, Nat.zero_le _, rfl, Lib.hid fun j hj h => absurd h (by omega), Lib.hid (Ext.refl _)⟩
        case round =>
          obtain ⟨i, hi, rfl, HA, HX⟩ := hrel
          by_cases hlt : i < n2
          · have hin : (i : Int) < (n2 : Int) := by omega
            have hil : i < r.ms.length := by rw [H2.out]; exact hlt
            obtain ⟨b, off, rfl, hb, hr⟩ := (HR.out.ms.ext (HXA.out.trans HX.out)).mv i hil
            have HST := Lib.hid (fun (h : Lg.okM r.ms[i] = true) => all_step HA.out (i := i) (fun _ => h))
            have HNO := Lib.hid (allB_not (p := Lg.okM) hil)
            have HOK : Hid (Lg.okM r.ms[i] = (Lg.pieceB r.ms[i].g r.ms[i].p && Lg.placeB r.ms[i].k r.ms[i].b)) := rfl
            generalize r.ms[i] = x at *
            obtain ⟨q, hq⟩ : ∃ q, Lg.pieceB x.g x.p = q := ⟨_, rfl⟩
            obtain ⟨q', hq'⟩ : ∃ q', Lg.placeB x.k x.b = q' := ⟨_, rfl⟩
            rw [hq, hq'] at HOK
            have HQ := Lib.hid hq
            have HQ' := Lib.hid hq'
            clear hq hq'
            by_cases hqq : q = true ∧ q' = true
            · obtain ⟨rfl, rfl⟩ := hqq
              go_wp2_with first | (refine wpList_loadR 98 _ rfl (by rfl) rfl (mv_load hr) ?_) | (refine wpList_loadR 96 _ rfl (by rfl) rfl (place_load HB2.out) ?_) | (refine wpList_store_box 98 _ _ rfl (by rfl) rfl rfl (BoxAt.new wr mvZ 98) rfl (by kernel_rfl) (by simp [Value.oneCell']) ?_; intro W2 hS; have HX2 := Lib.hid (hS.fresh rfl); have HB2 := Lib.hid hS.box; have k0 := hS.box.cell 0 (v := .int .i64 x.g) rfl; have k1 := hS.box.cell 1 (v := .int .i64 x.p) rfl; have kl := hS.box.lt; clear hS) | (go_at_call 133; refine (piece_any _ _ _).mono ?_; rintro e w' ⟨rfl, rfl⟩; rw [HQ.out]) | (go_at_call 134; refine (place_any _ _ _).mono ?_; rintro e W3 ⟨rfl, hx3⟩; rw [HQ'.out]; have HX3 := Lib.hid (HX2.out.trans hx3); clear hx3)
              go_roundw
              case rel => exact ⟨i + 1, by omega, by go_num, Lib.hid (HST.out HOK.out), HX.out.trans HX3.out⟩
              case measure => simp [intOf]; omega
            · have HVF : Hid (V = false) := by
                show _ = _
                rw [HVV.out]
                refine HNO.out ?_
                rw [HOK.out]
                cases q <;> cases q' <;> simp_all
              cases q with
              | false =>
                go_wp2_with first | (refine wpList_loadR 98 _ rfl (by rfl) rfl (mv_load hr) ?_) | (refine wpList_loadR 96 _ rfl (by rfl) rfl (place_load HB2.out) ?_) | (refine wpList_store_box 98 _ _ rfl (by rfl) rfl rfl (BoxAt.new wr mvZ 98) rfl (by kernel_rfl) (by simp [Value.oneCell']) ?_; intro W2 hS; have HX2 := Lib.hid (hS.fresh rfl); have HB2 := Lib.hid hS.box; have k0 := hS.box.cell 0 (v := .int .i64 x.g) rfl; have k1 := hS.box.cell 1 (v := .int .i64 x.p) rfl; have kl := hS.box.lt; clear hS) | (go_at_call 133; refine (piece_any _ _ _).mono ?_; rintro e w' ⟨rfl, rfl⟩; rw [HQ.out]) | (go_at_call 134; refine (place_any _ _ _).mono ?_; rintro e W3 ⟨rfl, hx3⟩; rw [HQ'.out]; have HX3 := Lib.hid (HX2.out.trans hx3); clear hx3)
                go_ret
                exact ⟨by rw [HVF.out]; rfl, HXA.out.trans (HX.out.trans HX2.out)⟩
              | true =>
                cases q' with
                | true => exact absurd ⟨rfl, rfl⟩ hqq
                | false =>
                  go_wp2_with first | (refine wpList_loadR 98 _ rfl (by rfl) rfl (mv_load hr) ?_) | (refine wpList_loadR 96 _ rfl (by rfl) rfl (place_load HB2.out) ?_) | (refine wpList_store_box 98 _ _ rfl (by rfl) rfl rfl (BoxAt.new wr mvZ 98) rfl (by kernel_rfl) (by simp [Value.oneCell']) ?_; intro W2 hS; have HX2 := Lib.hid (hS.fresh rfl); have HB2 := Lib.hid hS.box; have k0 := hS.box.cell 0 (v := .int .i64 x.g) rfl; have k1 := hS.box.cell 1 (v := .int .i64 x.p) rfl; have kl := hS.box.lt; clear hS) | (go_at_call 133; refine (piece_any _ _ _).mono ?_; rintro e w' ⟨rfl, rfl⟩; rw [HQ.out]) | (go_at_call 134; refine (place_any _ _ _).mono ?_; rintro e W3 ⟨rfl, hx3⟩; rw [HQ'.out]; have HX3 := Lib.hid (HX2.out.trans hx3); clear hx3)
                  go_ret
                  exact ⟨by rw [HVF.out]; rfl, HXA.out.trans (HX.out.trans HX3.out)⟩
          · have hin : i = n2 := by omega
            subst hin
            have hin2 : ¬ ((i : Int) < (i : Int)) := by omega
            have HW : Hid (r.ms.all Lg.okM = true) := all_of fun j hj => HA.out j hj (by rw [← H2.out]; exact hj)
            go_wp2_with fail
            go_ret
            exact ⟨by rw [HVV.out, HW.out]; rfl, HXA.out.trans HX.out⟩
end Go.Proofs.YtjabgpejmnpamaaGreatDoor
