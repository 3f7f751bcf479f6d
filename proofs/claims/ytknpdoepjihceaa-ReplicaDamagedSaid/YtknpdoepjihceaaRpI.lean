/-
  Chapter 29 (replica): Usable of the reference.
-/
import Derived.Test.YtknpdoepjihceaaRpH
namespace Go.Proofs.Ytknpdoepjihceaa
open Go.RowKit
set_option linter.unusedVariables false
attribute [local go_sem] eq_strB

/-- what Usable of the reference returns -/
def RUseEnd (W : World) (v : Value) (l : List (BitVec 8)) (gen : BitVec 64) (i : Nat) (e : Ending) (w' : World) : Prop :=
  ∃ mv vc, e = .returned (.tuple #[.int .i64 mv, vc, .bool (usB l gen i)]) ∧ (usB l gen i = true → mv = ((mP l).toNat : Int) ∧ ∀ x, SliceAt encB x v l → SliceAt encB x vc (cP l)) ∧ Below W.heap.size W w'

set_option maxHeartbeats 2000000 in
theorem ruse_any (v : Value) (l : List (BitVec 8)) (gen : BitVec 64) (i : Nat) (w : World) (hl : l.length ≤ 100000) (hi : i ≤ 100000) (h : SliceAt encB w v l) :
    Calls Try.prog 25 #[v, encU gen, .int .i64 i] w (RUseEnd w v l gen i) := by
  have HS := Lib.hid h
  obtain ⟨ad, cap, rfl, hca, hcell⟩ := h
  by_cases h25 : l.length < 25
  · have hd : decide ((l.length : Int) < 25) = true := by rw [decide_eq_true_eq]; omega
    go_enter Try.func25, Try.ntmps25
    go_wp2_with fail
    refine bodyPost_ret (v := .tuple #[.int .i64 0, .slice none 0 0, .bool false]) ?_ rfl ?_
    · simp only [results, Try.results25]
      go_simp
    · exact ⟨_, _, by rw [us_len (.inl h25)], (fun hh => by rw [us_len (.inl h25)] at hh; cases hh), Below.refl _ _⟩
  · have hd : decide ((l.length : Int) < 25) = false := by rw [decide_eq_false_iff_not]; omega
    by_cases h57 : 57 < l.length
    · have hd2 : decide ((57 : Int) < (l.length : Int)) = true := by rw [decide_eq_true_eq]; omega
      go_enter Try.func25, Try.ntmps25
      go_wp2_with fail
      refine bodyPost_ret (v := .tuple #[.int .i64 0, .slice none 0 0, .bool false]) ?_ rfl ?_
      · simp only [results, Try.results25]
        go_simp
      · exact ⟨_, _, by rw [us_len (.inr h57)], (fun hh => by rw [us_len (.inr h57)] at hh; cases hh), Below.refl _ _⟩
    · have hd2 : decide ((57 : Int) < (l.length : Int)) = false := by rw [decide_eq_false_iff_not]; omega
      obtain ⟨b, off, rfl, hb⟩ : ∃ b off, ad = some ⟨b, off, none⟩ ∧ b < w.heap.size := by
        rcases hcell with ⟨h0, _⟩ | ⟨b, off, h1, h2, _⟩
        · rw [h0] at h25; simp at h25
        · exact ⟨b, off, h1, h2⟩
      obtain ⟨e, he⟩ : ∃ e, l.length = e + 8 := ⟨l.length - 8, by omega⟩
      have HUS := Lib.hid (us_ref (b := l) (gen := gen) (i := i) (by omega) (by omega) (by omega))
      have hsub : (l.length : Int) - 8 = (e : Int) := by omega
      have hn9 : e + 8 ≤ 57 := by omega
      have he17 : 17 ≤ e := by omega
      have hcap : e + 8 ≤ cap := by omega
      have k12 : ¬ cap = 12 := by omega
      have k17 : ¬ cap = 17 := by omega
      have HS12 := Lib.hid (HS.out.sub 12 4 (cap - 12) (by omega) hb (by omega))
      have HS17 := Lib.hid (HS.out.sub 17 (e - 17) (cap - 17) (by omega) hb (by omega))
      have hc17 : (l.drop 17).take (e - 17) = cP l := by rw [cP_eq (by omega), he]; rfl
      have hm12 : unle ((l.drop 12).take 4) = mP l := (mP_eq (by omega)).symm
      rw [hc17] at HS17
      have HM := Lib.hid hm12
      have hcl : (cP l).length ≤ 10000 := by rw [← hc17, List.length_take]; omega
      have HC17 := Lib.hid hc17
      have HE := Lib.hid he
      have hmlt := mP_lt l
      obtain ⟨m, hm⟩ : ∃ m, (mP l).toNat = m := ⟨_, rfl⟩
      have hmo : BitVec.ofNat 64 m = mP l := by rw [← hm]; apply BitVec.eq_of_toNat_eq; rw [BitVec.toNat_ofNat]; have := (mP l).isLt; omega
      have hum : un (mP l) = (m : Int) := by rw [← hm]; rfl
      rw [hm] at hmlt
      have HMO := Lib.hid hmo
      have HMT := Lib.hid hm
      clear hc17 hm12 hcell hca he hm hmo
      have hwm : IntKind.i64.wrap (m : Int) = (m : Int) := i64_id _ (by omega)
      have n12 : 16 - 12 = 4 := rfl
      go_enter Try.func25, Try.ntmps25
      go_wp2_with fail
      go_at_call 29
      refine (rget_as (mP l) _ _ _ HM.out (by simp <;> omega) HS12.out).mono ?_
      rintro e1 w1 ⟨rfl, rfl⟩
      by_cases hlt : i < m
      · have hd3 : decide ((i : Int) < (m : Int)) = true := by rw [decide_eq_true_eq]; omega
        have hd4 : decide (i < m) = true := by rw [decide_eq_true_eq]; omega
        have HU2 : Hid (usB l gen i = decide (sectorL gen (BitVec.ofNat 64 i) (mP l) (cP l) = l)) := by show _ = _; rw [HUS.out, HMT.out, decide_eq_true hlt, Bool.true_and]
        clear hlt
        go_wp2_with fail
        refine wp_region_ext [(0, true), (1, true), (2, true), (3, true), (4, true), (5, true), (6, true), (7, true), (8, true), (9, true), (12, true), (13, true), (10, false), (11, true), (14, true), (15, true), (16, true), (17, true), (18, true)] (by kernel_rfl) (by kernel_rfl) ?_
        iterate 11 (first
         | (refine ext_move rfl rfl (by rfl) (by rfl) ?_; simp only [Act.put, List.setIfInBounds_toArray, List.set_cons_zero, List.set_cons_succ])
         | (refine ext_assign rfl rfl (by rfl) (by rfl) ?_; simp only [Act.put, List.setIfInBounds_toArray, List.set_cons_zero, List.set_cons_succ])
         | (refine ext_pick_t rfl rfl (by rfl) (by rfl) (by rfl) ?_; simp only [Act.put, List.setIfInBounds_toArray, List.set_cons_zero, List.set_cons_succ])
         | (refine ext_pick_f rfl rfl (by rfl) (by rfl) (by rfl) ?_; simp only [Act.put, List.setIfInBounds_toArray, List.set_cons_zero, List.set_cons_succ])
         | (apply ext_take rfl (by rfl)
            · intro w' hS
              have hSc := hS.cells
              (try simp only [World.size_drew, World.cell?_drew] at hSc)
              go_simp
              (try simp (disch := omega) only [i64_id, u64_id, ↓IntWalk.iteOmega, Int.tdiv_eq_ediv_of_nonneg, Int.tmod_eq_emod_of_nonneg])
              try rfl
            simp only [Act.put, List.setIfInBounds_toArray, List.set_cons_zero, List.set_cons_succ])
         | (refine ext_pass rfl (by rfl) ?_; simp only [Act.put, List.setIfInBounds_toArray, List.set_cons_zero, List.set_cons_succ]))
        (apply ext_take rfl (by rfl)
         · intro w' hS
           have hcv := run_str (P := Try.prog) Try.underlying22 Try.underlying5 Try.underlying9 w' _ _ (SliceAt.ext HS.out hS)
           go_simp
           try rfl
         simp only [Act.put, List.setIfInBounds_toArray, List.set_cons_zero, List.set_cons_succ])
        (refine ext_do rfl (by rfl) (fun K hK => ?_); go_simp; go_at_call 17; refine (sector_any gen i m _ (cP l) _ (by omega) (by omega) hcl (HS17.out.ext (Ext.drew _))).mono ?_; rintro e2 w2 ⟨v2, rfl, ho2, hb2⟩; have HO2 := Lib.hid ho2.slice; have HX2 := Lib.hid hb2; refine hK _ _ (by first | exact hb2 | exact (Ext.drew _).trans hb2) ?_; clear hK K; (try simp only [Act.put, List.setIfInBounds_toArray, List.set_cons_zero, List.set_cons_succ]))
        (apply ext_take rfl (by rfl)
         · intro w' hS
           have hcv := run_str (P := Try.prog) Try.underlying22 Try.underlying5 Try.underlying9 w' _ _ (SliceAt.ext HO2.out hS)
           go_simp
           try rfl
         simp only [Act.put, List.setIfInBounds_toArray, List.set_cons_zero, List.set_cons_succ])
        iterate 5 (first
         | (refine ext_move rfl rfl (by rfl) (by rfl) ?_; simp only [Act.put, List.setIfInBounds_toArray, List.set_cons_zero, List.set_cons_succ])
         | (refine ext_assign rfl rfl (by rfl) (by rfl) ?_; simp only [Act.put, List.setIfInBounds_toArray, List.set_cons_zero, List.set_cons_succ])
         | (refine ext_pick_t rfl rfl (by rfl) (by rfl) (by rfl) ?_; simp only [Act.put, List.setIfInBounds_toArray, List.set_cons_zero, List.set_cons_succ])
         | (refine ext_pick_f rfl rfl (by rfl) (by rfl) (by rfl) ?_; simp only [Act.put, List.setIfInBounds_toArray, List.set_cons_zero, List.set_cons_succ])
         | (apply ext_take rfl (by rfl)
            · intro w' hS
              have hSc := hS.cells
              (try simp only [World.size_drew, World.cell?_drew] at hSc)
              go_simp
              (try simp (disch := omega) only [i64_id, u64_id, ↓IntWalk.iteOmega, Int.tdiv_eq_ediv_of_nonneg, Int.tmod_eq_emod_of_nonneg])
              try rfl
            simp only [Act.put, List.setIfInBounds_toArray, List.set_cons_zero, List.set_cons_succ])
         | (refine ext_pass rfl (by rfl) ?_; simp only [Act.put, List.setIfInBounds_toArray, List.set_cons_zero, List.set_cons_succ]))
        refine ext_nil ?_
        go_wp2_with fail
        refine bodyPost_ret (v := .tuple #[.int .i64 m, .slice (some ⟨b, off + 17, none⟩) (e - 17) (cap - 17), .bool (decide (sectorL gen (BitVec.ofNat 64 i) (BitVec.ofNat 64 m) (cP l) = l))]) ?_ rfl ?_
        · simp only [results, Try.results25]
          go_simp
        · exact ⟨_, _, by rw [HU2.out, ← HMO.out], (fun _ => ⟨by rw [HMT.out], fun x hx => by have h2 := hx.sub 17 (e - 17) (cap - 17) (by have := HE.out; omega) (hx.lies (by have := HE.out; omega)) (by omega); rwa [HC17.out] at h2⟩), (Ext.drew _).trans HX2.out⟩
      · have hd3 : decide ((i : Int) < (m : Int)) = false := by rw [decide_eq_false_iff_not]; omega
        have hd4 : decide (i < m) = false := by rw [decide_eq_false_iff_not]; omega
        have HU2 : Hid (usB l gen i = false) := by show _ = _; rw [HUS.out, HMT.out, decide_eq_false hlt]; simp
        clear hlt
        go_wp2_with fail
        refine wp_region_ext [(0, true), (1, true), (2, true), (3, true), (4, true), (5, true), (6, true), (7, true), (8, true), (9, true), (12, true), (13, true), (10, false), (11, true), (14, true), (15, true), (16, true), (17, true), (18, true)] (by kernel_rfl) (by kernel_rfl) ?_
        iterate 11 (first
         | (refine ext_move rfl rfl (by rfl) (by rfl) ?_; simp only [Act.put, List.setIfInBounds_toArray, List.set_cons_zero, List.set_cons_succ])
         | (refine ext_assign rfl rfl (by rfl) (by rfl) ?_; simp only [Act.put, List.setIfInBounds_toArray, List.set_cons_zero, List.set_cons_succ])
         | (refine ext_pick_t rfl rfl (by rfl) (by rfl) (by rfl) ?_; simp only [Act.put, List.setIfInBounds_toArray, List.set_cons_zero, List.set_cons_succ])
         | (refine ext_pick_f rfl rfl (by rfl) (by rfl) (by rfl) ?_; simp only [Act.put, List.setIfInBounds_toArray, List.set_cons_zero, List.set_cons_succ])
         | (apply ext_take rfl (by rfl)
            · intro w' hS
              have hSc := hS.cells
              (try simp only [World.size_drew, World.cell?_drew] at hSc)
              go_simp
              (try simp (disch := omega) only [i64_id, u64_id, ↓IntWalk.iteOmega, Int.tdiv_eq_ediv_of_nonneg, Int.tmod_eq_emod_of_nonneg])
              try rfl
            simp only [Act.put, List.setIfInBounds_toArray, List.set_cons_zero, List.set_cons_succ])
         | (refine ext_pass rfl (by rfl) ?_; simp only [Act.put, List.setIfInBounds_toArray, List.set_cons_zero, List.set_cons_succ]))
        (first
         | (refine ext_move rfl rfl (by rfl) (by rfl) ?_; simp only [Act.put, List.setIfInBounds_toArray, List.set_cons_zero, List.set_cons_succ])
         | (refine ext_assign rfl rfl (by rfl) (by rfl) ?_; simp only [Act.put, List.setIfInBounds_toArray, List.set_cons_zero, List.set_cons_succ])
         | (refine ext_pick_t rfl rfl (by rfl) (by rfl) (by rfl) ?_; simp only [Act.put, List.setIfInBounds_toArray, List.set_cons_zero, List.set_cons_succ])
         | (refine ext_pick_f rfl rfl (by rfl) (by rfl) (by rfl) ?_; simp only [Act.put, List.setIfInBounds_toArray, List.set_cons_zero, List.set_cons_succ])
         | (apply ext_take rfl (by rfl)
            · intro w' hS
              have hSc := hS.cells
              (try simp only [World.size_drew, World.cell?_drew] at hSc)
              go_simp
              (try simp (disch := omega) only [i64_id, u64_id, ↓IntWalk.iteOmega, Int.tdiv_eq_ediv_of_nonneg, Int.tmod_eq_emod_of_nonneg])
              try rfl
            simp only [Act.put, List.setIfInBounds_toArray, List.set_cons_zero, List.set_cons_succ])
         | (refine ext_pass rfl (by rfl) ?_; simp only [Act.put, List.setIfInBounds_toArray, List.set_cons_zero, List.set_cons_succ]))
        (refine ext_passE rfl (by rfl) (by first | (with_reducible exact Ext.refl _) | (with_reducible exact Ext.drew _)) ?_; simp only [Act.put, List.setIfInBounds_toArray, List.set_cons_zero, List.set_cons_succ])
        (first
         | (refine ext_move rfl rfl (by rfl) (by rfl) ?_; simp only [Act.put, List.setIfInBounds_toArray, List.set_cons_zero, List.set_cons_succ])
         | (refine ext_assign rfl rfl (by rfl) (by rfl) ?_; simp only [Act.put, List.setIfInBounds_toArray, List.set_cons_zero, List.set_cons_succ])
         | (refine ext_pick_t rfl rfl (by rfl) (by rfl) (by rfl) ?_; simp only [Act.put, List.setIfInBounds_toArray, List.set_cons_zero, List.set_cons_succ])
         | (refine ext_pick_f rfl rfl (by rfl) (by rfl) (by rfl) ?_; simp only [Act.put, List.setIfInBounds_toArray, List.set_cons_zero, List.set_cons_succ])
         | (apply ext_take rfl (by rfl)
            · intro w' hS
              have hSc := hS.cells
              (try simp only [World.size_drew, World.cell?_drew] at hSc)
              go_simp
              (try simp (disch := omega) only [i64_id, u64_id, ↓IntWalk.iteOmega, Int.tdiv_eq_ediv_of_nonneg, Int.tmod_eq_emod_of_nonneg])
              try rfl
            simp only [Act.put, List.setIfInBounds_toArray, List.set_cons_zero, List.set_cons_succ])
         | (refine ext_pass rfl (by rfl) ?_; simp only [Act.put, List.setIfInBounds_toArray, List.set_cons_zero, List.set_cons_succ]))
        iterate 5 (first
         | (refine ext_move rfl rfl (by rfl) (by rfl) ?_; simp only [Act.put, List.setIfInBounds_toArray, List.set_cons_zero, List.set_cons_succ])
         | (refine ext_assign rfl rfl (by rfl) (by rfl) ?_; simp only [Act.put, List.setIfInBounds_toArray, List.set_cons_zero, List.set_cons_succ])
         | (refine ext_pick_t rfl rfl (by rfl) (by rfl) (by rfl) ?_; simp only [Act.put, List.setIfInBounds_toArray, List.set_cons_zero, List.set_cons_succ])
         | (refine ext_pick_f rfl rfl (by rfl) (by rfl) (by rfl) ?_; simp only [Act.put, List.setIfInBounds_toArray, List.set_cons_zero, List.set_cons_succ])
         | (apply ext_take rfl (by rfl)
            · intro w' hS
              have hSc := hS.cells
              (try simp only [World.size_drew, World.cell?_drew] at hSc)
              go_simp
              (try simp (disch := omega) only [i64_id, u64_id, ↓IntWalk.iteOmega, Int.tdiv_eq_ediv_of_nonneg, Int.tmod_eq_emod_of_nonneg])
              try rfl
            simp only [Act.put, List.setIfInBounds_toArray, List.set_cons_zero, List.set_cons_succ])
         | (refine ext_pass rfl (by rfl) ?_; simp only [Act.put, List.setIfInBounds_toArray, List.set_cons_zero, List.set_cons_succ]))
        refine ext_nil ?_
        go_wp2_with fail
        refine bodyPost_ret (v := .tuple #[.int .i64 m, .slice (some ⟨b, off + 17, none⟩) (e - 17) (cap - 17), .bool false]) ?_ rfl ?_
        · simp only [results, Try.results25]
          go_simp
        · exact ⟨_, _, by rw [HU2.out], (fun hh => by rw [HU2.out] at hh; cases hh), Ext.drew _⟩
end Go.Proofs.Ytknpdoepjihceaa
