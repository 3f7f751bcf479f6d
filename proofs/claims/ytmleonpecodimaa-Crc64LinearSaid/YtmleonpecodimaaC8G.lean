/-
  Chapter 8 (crc64): the walk of Crc64Linear.
-/
import Derived.Test.YtmleonpecodimaaC8E
namespace Go.Proofs.Ytmleonpecodimaa
open Go.ChangeShapes Go.WideShapes Go.ChangeAt Go.RowKit
set_option linter.unusedVariables false
attribute [local go_sem] xor_un and_un and_one_un xor_poly_un half_un or_un not_un unsigned64 wrap_ub xor_ub

/-- a row that is being filled: block B holds N cells that may be written, the first k of them those of f -/
def FillAt {α : Type} (enc : α → Value) (w : World) (B N : Nat) (f : Nat → α) (k : Nat) : Prop :=
  B < w.heap.size ∧ (∀ j, j < N → ∃ v, w.cell? ⟨B, j, none⟩ = some v) ∧ (∀ j, w.frozen? ⟨B, j, none⟩ = false) ∧ ∀ j, j < k → w.cell? ⟨B, j, none⟩ = some (enc (f j))
theorem FillAt.put {α : Type} {enc : α → Value} {w : World} {B N : Nat} {f : Nat → α} {k : Nat} (h : FillAt enc w B N f k) (hk : k < N) : FillAt enc (w.setCell ⟨B, k, none⟩ (enc (f k))) B N f (k + 1) := by
  obtain ⟨h1, h2, h3, h4⟩ := h
  refine ⟨by simpa using h1, fun j hj => ?_, fun j => by simpa using h3 j, fun j hj => ?_⟩
  · obtain ⟨v, hv⟩ := h2 j hj; exact cell?_setCell_some hv
  · rcases Nat.lt_succ_iff_lt_or_eq.1 hj with h' | h'
    · rw [set_off (by omega)]; exact h4 j h'
    · subst h'; obtain ⟨v, hv⟩ := h2 j hk; exact set_same hv
theorem FillAt.drew {α : Type} {enc : α → Value} {w : World} {B N : Nat} {f : Nat → α} {k : Nat} (h : FillAt enc w B N f k) : FillAt enc w.drew B N f k := by
  obtain ⟨h1, h2, h3, h4⟩ := h
  exact ⟨by simpa using h1, fun j hj => by simpa using h2 j hj, fun j => by simpa using h3 j, fun j hj => by simpa using h4 j hj⟩
theorem FillAt.slice {α : Type} {enc : α → Value} {w : World} {B N : Nat} {f : Nat → α} (h : FillAt enc w B N f N) : SliceAt enc w (.slice (some ⟨B, 0, none⟩) N N) ((List.range N).map f) := by
  refine ⟨_, N, by simp, by simp, .inr ⟨B, 0, rfl, h.1, fun i hi => ?_⟩⟩
  have hi' : i < N := by simpa using hi
  rw [Nat.zero_add, h.2.2.2 i hi']; simp
theorem FillAt.start {α : Type} {enc : α → Value} {w : World} {B N : Nat} {e : TypeId} {xs : List Value} (f : Nat → α) {cap : Nat} {base : Nat} (h : w.ownsRow base e 1 (.slice (some ⟨B, 0, none⟩) N cap) N xs) : FillAt enc w B N f 0 := by
  have hx : xs.length = N := by simpa using h.1
  refine ⟨(h.lt B rfl).2, fun j hj => ?_, fun j => h.frozenAt j, fun j hj => absurd hj (Nat.not_lt_zero _)⟩
  rw [h.cellAt j (by omega)]
  exact ⟨_, List.getElem?_eq_getElem (by omega)⟩

theorem xor3_range (la lb lc : List (BitVec 8)) (N : Nat) (ha : N ≤ la.length) (hb : N ≤ lb.length) (hc : N ≤ lc.length) :
    (List.range N).map (fun i => la.getD i 0#8 ^^^ lb.getD i 0#8 ^^^ lc.getD i 0#8) = Crc.xor3 (la.take N) (lb.take N) (lc.take N) := by
  induction N generalizing la lb lc with
  | zero => simp [Crc.xor3]
  | succ N ih =>
    match la, lb, lc, ha, hb, hc with
    | a :: la, b :: lb, c :: lc, ha, hb, hc =>
      rw [List.range_succ_eq_map]
      simp only [List.map_cons, List.map_map, List.take_succ_cons, Crc.xor3]
      congr 1
      rw [← ih la lb lc (by simpa using ha) (by simpa using hb) (by simpa using hc)]
      apply List.map_congr_left
      intro i _
      simp [Function.comp]

def min4 (a b c : Nat) : Nat := min (min (min a b) c) 100
theorem min4_le (a b c : Nat) : min4 a b c ≤ a ∧ min4 a b c ≤ b ∧ min4 a b c ≤ c ∧ min4 a b c ≤ 100 := by unfold min4; omega
theorem run_min4 {P : Program} (w : World) (ts : Array TypeId) (t : TypeId) (a b c : Nat) :
    (Builtin.min_ ts t #[.int .i64 (a : Int), .int .i64 (b : Int), .int .i64 (c : Int), .int .i64 100]).run P w = .ok (.int .i64 (min4 a b c : Nat)) w := by
  have e : ∀ x y : Nat, (if (y : Int) < (x : Int) then (y : Int) else (x : Int)) = ((min x y : Nat) : Int) := by
    intro x y
    split <;> omega
  have e3 : ∀ x : Nat, (if (100 : Int) < (x : Int) then (100 : Int) else (x : Int)) = ((min x 100 : Nat) : Int) := by
    intro x
    split <;> omega
  have : (Builtin.min_ ts t #[.int .i64 (a : Int), .int .i64 (b : Int), .int .i64 (c : Int), .int .i64 100]).run P w = .ok (.int .i64 (if (100 : Int) < (if (c : Int) < (if (b : Int) < (a : Int) then (b : Int) else (a : Int)) then (c : Int) else (if (b : Int) < (a : Int) then (b : Int) else (a : Int))) then (100 : Int) else (if (c : Int) < (if (b : Int) < (a : Int) then (b : Int) else (a : Int)) then (c : Int) else (if (b : Int) < (a : Int) then (b : Int) else (a : Int))))) w := rfl
  rw [this, e a b, e (min a b) c, e3]
  rfl

set_option maxHeartbeats 1000000 in
theorem crc64Linear_walk (va vb vc : Value) (la lb lc : List (BitVec 8)) (w : World) (hla : la.length ≤ maxLen) (hlb : lb.length ≤ maxLen) (hlc : lc.length ≤ maxLen)
    (ha : SliceAt encB w va la) (hb : SliceAt encB w vb lb) (hc : SliceAt encB w vc lc) :
    Calls Try.prog 8 #[va, vb, vc] w fun e w' => e = .returned (.bool true) ∧ Below w.heap.size w w' := by
  obtain ⟨i0, hi, hz0, hz1, hz2⟩ := info_parts infoB
  have HA0 := Lib.hid ha
  have HB0 := Lib.hid hb
  have HC0 := Lib.hid hc
  obtain ⟨ada, capa, rfl, hca, _⟩ := ha
  obtain ⟨adb, capb, rfl, hcb, _⟩ := hb
  obtain ⟨adc, capc, rfl, hcc, _⟩ := hc
  unfold maxLen at hla hlb hlc
  have HN := Lib.hid (min4_le la.length lb.length lc.length)
  generalize hN : min4 la.length lb.length lc.length = N at *
  have hMin := fun (w : World) (ts : Array TypeId) (t : TypeId) => hN ▸ run_min4 (P := Try.prog) w ts t la.length lb.length lc.length
  have hN100 : N ≤ 100 := HN.out.2.2.2
  clear hN
  go_enter Try.func8, Try.ntmps8
  go_wp2_with (first
    | (go_at_call 11; refine (awake_any _).mono ?_; rintro e w1 ⟨rfl, hb1⟩)
    | (at_make; refine wpList_make_full _ rfl (.tmp 19) (.tmp 19) 22 rfl w1.heap.size 5 i0 (.int .u8 0) 1 Try.underlying22 hi hz0 hz1 .i64 .i64 _ _ N rfl rfl rfl rfl (by rw [hz2]; omega) (by unfold maxLen; omega) (Nat.le_refl _) ?_; intro w2 hown2 hgrow2))
  have hx2 : Ext w1 w2 := (Below.refl _ _).grown hgrow2 (Nat.le_refl _) (fun k hk => (by cases hk))
  have hfs : FillAt encB w2 w1.heap.size N (fun i => la.getD i 0#8 ^^^ lb.getD i 0#8 ^^^ lc.getD i 0#8) 0 := FillAt.start _ hown2
  have HF := Lib.hid hfs
  have HA1 := HA0.out.ext hb1
  have HB1 := HB0.out.ext hb1
  have HC1 := HC0.out.ext hb1
  have HA := Lib.hid HA1
  have HB := Lib.hid HB1
  have HC := Lib.hid HC1
  clear hown2 hgrow2 hfs HA0 HB0 HC0 hMin HA1 HB1 HC1
  go_loopw [9] (fun i wr => ∃ k : Nat, k ≤ N ∧ i = .int .i64 k ∧ Below w1.heap.size w1 wr ∧ FillAt encB wr w1.heap.size N (fun i => la.getD i 0#8 ^^^ lb.getD i 0#8 ^^^ lc.getD i 0#8) k) (fun i _ => N - (intOf i).toNat)
  case atStart => exact ⟨0, Nat.zero_le _, rfl, hx2, HF.out⟩
  case round =>
    obtain ⟨k, hk, rfl, hx, hfl⟩ := hrel
    have HFL := Lib.hid hfl
    obtain ⟨hN1, hN2, hN3, _⟩ := HN.out
    by_cases hlt : k < N
    · obtain ⟨v0, hv0⟩ := hfl.2.1 k hlt
      have hfz := hfl.2.2.1 k
      have hka : k < la.length := by omega
      have hkb : k < lb.length := by omega
      have hkc : k < lc.length := by omega
      obtain ⟨_, _, e1, _, h1⟩ := HA.out
      obtain ⟨_, _, e2, _, h2⟩ := HB.out
      obtain ⟨_, _, e3, _, h3⟩ := HC.out
      cases e1; cases e2; cases e3
      rcases h1 with ⟨h1, _⟩ | ⟨b1, o1, rfl, hb1', h1⟩
      · subst h1; simp at hka
      rcases h2 with ⟨h2, _⟩ | ⟨b2, o2, rfl, hb2', h2⟩
      · subst h2; simp at hkb
      rcases h3 with ⟨h3, _⟩ | ⟨b3, o3, rfl, hb3', h3⟩
      · subst h3; simp at hkc
      have c1 := h1 k hka
      have c2 := h2 k hkb
      have c3 := h3 k hkc
      have hput := hfl.put hlt
      simp only [List.getD_eq_getElem?_getD, List.getElem?_eq_getElem hka, List.getElem?_eq_getElem hkb, List.getElem?_eq_getElem hkc, Option.getD_some] at hput
      have HP := Lib.hid hput
      have i0' : (0 : Int) ≤ (k : Int) := by omega
      have i1 : (k : Int) < (la.length : Int) := by omega
      have i2 : (k : Int) < (lb.length : Int) := by omega
      have i3 : (k : Int) < (lc.length : Int) := by omega
      have i4 : (k : Int) < (N : Int) := by omega
      clear hput h1 h2 h3 hfl
      go_wp2
      refine wp_region_bel (w1.heap.size) (w1) (hx) [(0, true), (1, true), (2, true), (3, true), (4, true), (5, true), (6, true), (7, true), (8, true), (9, true), (10, true), (11, true), (12, true), (13, true), (14, true), (15, true), (16, true), (17, false)] (by kernel_rfl) (by kernel_rfl) ?_
      iterate 17 (first
       | (refine bel_move rfl rfl (by rfl) (by rfl) ?_; simp only [Act.put, List.setIfInBounds_toArray, List.set_cons_zero, List.set_cons_succ])
       | (apply bel_take rfl (by rfl)
          · intro w' hS
            have hSc := below_cellsB hS
            go_simp
            (try simp (disch := omega) only [i64_id, ↓IntWalk.iteOmega, Int.tdiv_eq_ediv_of_nonneg, Int.tmod_eq_emod_of_nonneg])
            try rfl
          simp only [Act.put, List.setIfInBounds_toArray, List.set_cons_zero, List.set_cons_succ])
       | (refine bel_pass rfl (by rfl) ?_; simp only [Act.put, List.setIfInBounds_toArray, List.set_cons_zero, List.set_cons_succ]))
      (refine bel_do rfl (by rfl) (fun K hK => ?_)
       go_simp
       refine hK _ _ ((hx.setCell (by simp) _).drew) ?_
       clear hK K
       (try simp only [Act.put, List.setIfInBounds_toArray, List.set_cons_zero, List.set_cons_succ]))
      refine bel_nil ?_
      go_wp2
      go_roundw
      case rel => exact ⟨k + 1, by omega, by go_num, (hx.setCell (by simp) _).drew, HP.out.drew⟩
      case measure => simp [intOf]; omega
    · have hkN : k = N := by omega
      subst hkN
      have hfin := HFL.out.slice
      have HLX : Hid ((Crc.xor3 (la.take k) (lb.take k) (lc.take k)).length = k) := by
        show _ = _; rw [← xor3_range la lb lc k hN1 hN2 hN3]; simp
      rw [xor3_range la lb lc k hN1 hN2 hN3] at hfin
      have HS := Lib.hid hfin
      have HX3 := Lib.hid (Crc.sum_xor3 (la.take k) (lb.take k) (lc.take k) (by simp; omega) (by simp; omega))
      have HXa := Lib.hid ((HA.out.ext hx).take k hN1)
      have HXb := Lib.hid ((HB.out.ext hx).take k hN2)
      have HXc := Lib.hid ((HC.out.ext hx).take k hN3)
      clear hfin hfl
      go_wp2
      have hx0 := Ext.refl wr
      refine wp_region_ext [(0, true), (1, true), (2, true), (4, true), (5, true), (6, true), (9, true), (10, true), (11, true), (14, true), (3, false), (7, false), (8, true), (12, false), (13, true), (15, false), (16, true), (17, true)] (by kernel_rfl) (by kernel_rfl) ?_
      iterate 10 (first
       | (refine ext_move rfl rfl (by rfl) (by rfl) ?_; simp only [Act.put, List.setIfInBounds_toArray, List.set_cons_zero, List.set_cons_succ])
       | (refine ext_assign rfl rfl (by rfl) (by rfl) ?_; simp only [Act.put, List.setIfInBounds_toArray, List.set_cons_zero, List.set_cons_succ])
       | (refine ext_pick_t rfl rfl (by rfl) (by rfl) (by rfl) ?_; simp only [Act.put, List.setIfInBounds_toArray, List.set_cons_zero, List.set_cons_succ])
       | (refine ext_pick_f rfl rfl (by rfl) (by rfl) (by rfl) ?_; simp only [Act.put, List.setIfInBounds_toArray, List.set_cons_zero, List.set_cons_succ])
       | (apply ext_take rfl (by rfl)
          · intro w' hS
            have hSc := hS.cells
            (try simp only [World.size_drew, World.cell?_drew] at hSc)
            go_simp
            (try simp (disch := omega) only [i64_id, ↓IntWalk.iteOmega, Int.tdiv_eq_ediv_of_nonneg, Int.tmod_eq_emod_of_nonneg])
            try rfl
          simp only [Act.put, List.setIfInBounds_toArray, List.set_cons_zero, List.set_cons_succ])
       | (refine ext_pass rfl (by rfl) ?_; simp only [Act.put, List.setIfInBounds_toArray, List.set_cons_zero, List.set_cons_succ]))
      (refine ext_do rfl (by rfl) (fun K hK => ?_)
       go_simp
       go_at_call 12
       refine (sum_any _ _ _ (by rw [List.length_take]; unfold maxLen; omega) (HXa.out.ext (Ext.drew _))).mono ?_
       rintro e w3 ⟨rfl, rfl⟩
       refine hK _ _ (by first | exact Ext.drew _ | exact Ext.refl _) ?_
       clear hK K
       (try simp only [Act.put, List.setIfInBounds_toArray, List.set_cons_zero, List.set_cons_succ]))
      (refine ext_do rfl (by rfl) (fun K hK => ?_)
       go_simp
       go_at_call 12
       refine (sum_any _ _ _ (by rw [List.length_take]; unfold maxLen; omega) (HXb.out.ext (Ext.drew _))).mono ?_
       rintro e w3 ⟨rfl, rfl⟩
       refine hK _ _ (by first | exact Ext.drew _ | exact Ext.refl _) ?_
       clear hK K
       (try simp only [Act.put, List.setIfInBounds_toArray, List.set_cons_zero, List.set_cons_succ]))
      iterate 1 (first
       | (refine ext_move rfl rfl (by rfl) (by rfl) ?_; simp only [Act.put, List.setIfInBounds_toArray, List.set_cons_zero, List.set_cons_succ])
       | (refine ext_assign rfl rfl (by rfl) (by rfl) ?_; simp only [Act.put, List.setIfInBounds_toArray, List.set_cons_zero, List.set_cons_succ])
       | (refine ext_pick_t rfl rfl (by rfl) (by rfl) (by rfl) ?_; simp only [Act.put, List.setIfInBounds_toArray, List.set_cons_zero, List.set_cons_succ])
       | (refine ext_pick_f rfl rfl (by rfl) (by rfl) (by rfl) ?_; simp only [Act.put, List.setIfInBounds_toArray, List.set_cons_zero, List.set_cons_succ])
       | (apply ext_take rfl (by rfl)
          · intro w' hS
            have hSc := hS.cells
            (try simp only [World.size_drew, World.cell?_drew] at hSc)
            go_simp
            (try simp (disch := omega) only [i64_id, ↓IntWalk.iteOmega, Int.tdiv_eq_ediv_of_nonneg, Int.tmod_eq_emod_of_nonneg])
            try rfl
          simp only [Act.put, List.setIfInBounds_toArray, List.set_cons_zero, List.set_cons_succ])
       | (refine ext_pass rfl (by rfl) ?_; simp only [Act.put, List.setIfInBounds_toArray, List.set_cons_zero, List.set_cons_succ]))
      (refine ext_do rfl (by rfl) (fun K hK => ?_)
       go_simp
       go_at_call 12
       refine (sum_any _ _ _ (by rw [List.length_take]; unfold maxLen; omega) (HXc.out.ext (Ext.drew _))).mono ?_
       rintro e w3 ⟨rfl, rfl⟩
       refine hK _ _ (by first | exact Ext.drew _ | exact Ext.refl _) ?_
       clear hK K
       (try simp only [Act.put, List.setIfInBounds_toArray, List.set_cons_zero, List.set_cons_succ]))
      iterate 1 (first
       | (refine ext_move rfl rfl (by rfl) (by rfl) ?_; simp only [Act.put, List.setIfInBounds_toArray, List.set_cons_zero, List.set_cons_succ])
       | (refine ext_assign rfl rfl (by rfl) (by rfl) ?_; simp only [Act.put, List.setIfInBounds_toArray, List.set_cons_zero, List.set_cons_succ])
       | (refine ext_pick_t rfl rfl (by rfl) (by rfl) (by rfl) ?_; simp only [Act.put, List.setIfInBounds_toArray, List.set_cons_zero, List.set_cons_succ])
       | (refine ext_pick_f rfl rfl (by rfl) (by rfl) (by rfl) ?_; simp only [Act.put, List.setIfInBounds_toArray, List.set_cons_zero, List.set_cons_succ])
       | (apply ext_take rfl (by rfl)
          · intro w' hS
            have hSc := hS.cells
            (try simp only [World.size_drew, World.cell?_drew] at hSc)
            go_simp
            (try simp (disch := omega) only [i64_id, ↓IntWalk.iteOmega, Int.tdiv_eq_ediv_of_nonneg, Int.tmod_eq_emod_of_nonneg])
            try rfl
          simp only [Act.put, List.setIfInBounds_toArray, List.set_cons_zero, List.set_cons_succ])
       | (refine ext_pass rfl (by rfl) ?_; simp only [Act.put, List.setIfInBounds_toArray, List.set_cons_zero, List.set_cons_succ]))
      rw [HX3.out]
      (refine ext_do rfl (by rfl) (fun K hK => ?_)
       go_simp
       go_at_call 12
       refine (sum_any _ _ _ (by rw [HLX.out]; unfold maxLen; omega) (HS.out.ext (Ext.drew _))).mono ?_
       rintro e w3 ⟨rfl, rfl⟩
       refine hK _ _ (by first | exact Ext.drew _ | exact Ext.refl _) ?_
       clear hK K
       (try simp only [Act.put, List.setIfInBounds_toArray, List.set_cons_zero, List.set_cons_succ]))
      iterate 2 (first
       | (refine ext_move rfl rfl (by rfl) (by rfl) ?_; simp only [Act.put, List.setIfInBounds_toArray, List.set_cons_zero, List.set_cons_succ])
       | (refine ext_assign rfl rfl (by rfl) (by rfl) ?_; simp only [Act.put, List.setIfInBounds_toArray, List.set_cons_zero, List.set_cons_succ])
       | (refine ext_pick_t rfl rfl (by rfl) (by rfl) (by rfl) ?_; simp only [Act.put, List.setIfInBounds_toArray, List.set_cons_zero, List.set_cons_succ])
       | (refine ext_pick_f rfl rfl (by rfl) (by rfl) (by rfl) ?_; simp only [Act.put, List.setIfInBounds_toArray, List.set_cons_zero, List.set_cons_succ])
       | (apply ext_take rfl (by rfl)
          · intro w' hS
            have hSc := hS.cells
            (try simp only [World.size_drew, World.cell?_drew] at hSc)
            go_simp
            (try simp (disch := omega) only [i64_id, ↓IntWalk.iteOmega, Int.tdiv_eq_ediv_of_nonneg, Int.tmod_eq_emod_of_nonneg])
            try rfl
          simp only [Act.put, List.setIfInBounds_toArray, List.set_cons_zero, List.set_cons_succ])
       | (refine ext_pass rfl (by rfl) ?_; simp only [Act.put, List.setIfInBounds_toArray, List.set_cons_zero, List.set_cons_succ]))
      refine ext_nil ?_
      go_wp2
      go_ret
      exact ⟨rfl, Ext.trans hb1 (Ext.trans hx (Ext.drew _))⟩
end Go.Proofs.Ytmleonpecodimaa
