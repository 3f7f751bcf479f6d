/-
  Chapter 30 (label): slices.Collect over slices.Chunk: the parts of a payload.
-/
import Derived.RangeFuncBox
import Derived.RangeFuncLeaves
import Derived.Shelf.Abstract
import Derived.WalkKit
import Derived.OwnWalkIn
import Derived.TacticsInMore
import Derived.LoopNIn
import Derived.LoopIn
import Derived.Maps.AppendAt
import Derived.Test.YthjcdikpomlpmaaLbQ
namespace Go.Proofs.Ythjcdikpomlpmaa
open Go.RowKit Go.Shelf
set_option linter.unusedVariables false
attribute [local go_sem] Oper.semAt_some

theorem run_min3 {P : Program} (w : World) (ts : Array TypeId) (t : TypeId) (a b : Int) :
    (Builtin.min_ ts t #[.int .i64 a, .int .i64 b]).run P w = .ok (.int .i64 (min a b)) w := by
  have e : (if b < a then b else a) = min a b := by split <;> omega
  have : (Builtin.min_ ts t #[.int .i64 a, .int .i64 b]).run P w = .ok (.int .i64 (if b < a then b else a)) w := rfl
  rw [this, e]
/-- part i of a slice of m bytes at address b, off -/
abbrev partV (b off m i : Nat) : Value := .slice (some ⟨b, off + 28 * i, none⟩) (min 28 (m - 28 * i)) (min 28 (m - 28 * i))
set_option maxRecDepth 100000 in
set_option maxHeartbeats 2000000 in
theorem chunk1_in (n : Nat) (hn : 1 ≤ n) (l g1 g2 n₀ b off m cap : Nat) (hm : m ≤ 100000) (hcap : m ≤ cap) (hg1 : g1 < n₀) (hg2 : g2 < n₀) (J Jx : List Nat → World → Prop)
    (hY : ∀ pre x W, J pre W → pre.length < (m + 27) / 28 → YieldAt Fence.wide (n - 1) Try.prog l #[partV b off m x] W fun e W' =>
      (e = .returned (.bool true) ∧ J (pre ++ [x]) W' ∧ Below n₀ W W') ∨ (e = .returned (.bool false) ∧ Jx (pre ++ [x]) W'))
    (hJa : ∀ (s : List Nat) (A B : World) (row : Option Nat), J s A → A.grownBy B row → (∀ r, row = some r → False) → J s B)
    (W : World) (hW : n₀ ≤ W.heap.size) (hc1 : W.cell? ⟨g1, 0, none⟩ = some (.slice (some ⟨b, off, none⟩) m cap)) (hc2 : W.cell? ⟨g2, 0, none⟩ = some (.int .i64 28)) (h0 : J [] W) :
    CallsIn Fence.wide n Try.prog 51 #[.func (.yield l) #[] #[], .pointer (some ⟨g1, 0, none⟩), .pointer (some ⟨g2, 0, none⟩)] W fun e W' => (∃ v, e = .returned v) ∧
      ((∃ ys, ys = List.range ((m + 27) / 28) ∧ J ys W') ∨ (∃ pre, True ∧ Jx pre W')) := by
  refine callsIn_of_wp Try.func51 rfl trivial ?_ rfl
  simp only [Try.ntmps51, List.size_toArray, List.length_cons, List.length_nil, Nat.reduceAdd, Nat.reduceSub, Array.replicate_succ, Array.replicate_zero, List.push_toArray, List.append_toArray, List.nil_append, List.cons_append]
  gi_wp2
  gi_loopw [4] (fun it wr => ∃ k : Nat, k ≤ (m + 27) / 28 ∧ it = .int .i64 ((28 * k : Nat) : Int) ∧ J (List.range k) wr ∧ Below n₀ W wr) (fun it _ => 100100 - (intOf it).toNat)
  case atStart => exact ⟨0, Nat.zero_le _, rfl, h0, Below.refl _ _⟩
  case round =>
    obtain ⟨k, hk, rfl, hJ, hB⟩ := hrel
    have d1 : wr.cell? ⟨g1, 0, none⟩ = some (.slice (some ⟨b, off, none⟩) m cap) := (hB.cell (p := ⟨g1, 0, none⟩) hg1).trans hc1
    have d2 : wr.cell? ⟨g2, 0, none⟩ = some (.int .i64 28) := (hB.cell (p := ⟨g2, 0, none⟩) hg2).trans hc2
    have hl1 : g1 < wr.heap.size := Nat.lt_of_lt_of_le hg1 (Nat.le_trans hW hB.size)
    have hl2 : g2 < wr.heap.size := Nat.lt_of_lt_of_le hg2 (Nat.le_trans hW hB.size)
    by_cases hlt : k < (m + 27) / 28
    · have hkm : 28 * k < m := by omega
      obtain ⟨q, hq⟩ : ∃ q, 28 * k = q := ⟨_, rfl⟩
      have hqI : (q : Int) < (m : Int) := by omega
      have hq0 : (0 : Int) ≤ (q : Int) := by omega
      have hqm : (q : Int) ≤ (m : Int) := by omega
      have hqc : (q : Int) ≤ (cap : Int) := by omega
      have hmc : (m : Int) ≤ (cap : Int) := by omega
      have hqne : ¬ (cap = q) := by omega
      have hqneI : ¬ ((cap : Int) = (q : Int)) := by omega
      have HQ := Lib.hid hq
      obtain ⟨c, hcq⟩ : ∃ c, min 28 (m - q) = c := ⟨_, rfl⟩
      rw [hq] at hkm ⊢
      clear hq
      gi_wp2
      refine wpIn_wide.2 ?_
      refine wp_region_ext [(0, true), (1, true), (2, true), (3, true), (4, true), (5, true), (6, true)] (by kernel_rfl) (by kernel_rfl) ?_
      have hmin1 : min (28 : Int) ((m - q : Nat) : Int) = (c : Int) := by omega
      have hmin2 : min (28 : Int) ((m : Int) - (q : Int)) = (c : Int) := by omega
      have hmin := fun (w : World) (ts : Array TypeId) (t : TypeId) (a b : Int) => run_min3 (P := Try.prog) w ts t a b
      iterate 7 (first
       | (refine ext_move rfl rfl (by rfl) (by rfl) ?_; simp only [Act.put, List.setIfInBounds_toArray, List.set_cons_zero, List.set_cons_succ])
       | (refine ext_assign rfl rfl (by rfl) (by rfl) ?_; simp only [Act.put, List.setIfInBounds_toArray, List.set_cons_zero, List.set_cons_succ])
       | (refine ext_pick_t rfl rfl (by rfl) (by rfl) (by rfl) ?_; simp only [Act.put, List.setIfInBounds_toArray, List.set_cons_zero, List.set_cons_succ])
       | (refine ext_pick_f rfl rfl (by rfl) (by rfl) (by rfl) ?_; simp only [Act.put, List.setIfInBounds_toArray, List.set_cons_zero, List.set_cons_succ])
       | (apply ext_take rfl (by rfl)
          · intro w' hS
            have hSc := hS.cells
            (try simp only [World.size_drew, World.cell?_drew] at hSc)
            go_simp
            (try simp (disch := omega) only [i64_id, u64_id, ↓IntWalk.iteOmega, Int.tdiv_eq_ediv_of_nonneg, Int.tmod_eq_emod_of_nonneg])
            try rfl
          simp only [Act.put, List.setIfInBounds_toArray, List.set_cons_zero, List.set_cons_succ])
       | (refine ext_pass rfl (by rfl) ?_; simp only [Act.put, List.setIfInBounds_toArray, List.set_cons_zero, List.set_cons_succ]))
      refine ext_nil ?_
      have hJd := hJa _ _ _ none hJ (grown_drew (grown_refl wr none)) (fun r e => by cases e)
      obtain ⟨fn, tmps, assign, body, hy, hR⟩ := hY _ k wr.drew hJd (by rw [List.length_range]; exact hlt)
      have hpv : partV b off m k = .slice (some ⟨b, off + q, none⟩) c c := by unfold partV; rw [HQ.out, hcq]
      rw [hpv] at hy
      have d1' : wr.drew.cell? ⟨g1, 0, none⟩ = some (.slice (some ⟨b, off, none⟩) m cap) := by rw [World.cell?_drew]; exact d1
      have d2' : wr.drew.cell? ⟨g2, 0, none⟩ = some (.int .i64 28) := by rw [World.cell?_drew]; exact d2
      have hqc1 : (q : Int) + (c : Int) ≤ (cap : Int) := by omega
      have hqc2 : (q : Int) ≤ (q : Int) + (c : Int) := by omega
      have hqw1 : IntKind.i64.wrap ((q : Int) + (c : Int)) = ((q + c : Nat) : Int) := by rw [i64_wrap]; omega
      have hqw2 : Go.RowKit.wrap64 ((q : Int) + (c : Int)) = ((q + c : Nat) : Int) := by unfold Go.RowKit.wrap64; omega
      obtain ⟨z, hz⟩ : ∃ z, q + c = z := ⟨_, rfl⟩
      rw [hz] at hqw1 hqw2
      have hzq : q ≤ z := by omega
      have hzc : z ≤ cap := by omega
      have hzqI : (q : Int) ≤ (z : Int) := by omega
      have hzcI : (z : Int) ≤ (cap : Int) := by omega
      have hz0 : (0 : Int) ≤ (z : Int) := by omega
      have hzne : ¬ (z = q) := by omega
      have hzsub : z - q = c := by omega
      clear hmin1 hmin2 hmin hcq hpv hz hqc1 hqc2
      gi_wp2
      refine hR.mono ?_
      rintro e W3 (⟨rfl, hJ3, hk3⟩ | ⟨rfl, hJx3⟩)
      · have d3 : W3.cell? ⟨g2, 0, none⟩ = some (.int .i64 28) := (hk3.cell (p := ⟨g2, 0, none⟩) hg2).trans d2'
        clear d1 d2 d1' d2'
        gi_wp2
        go_roundw
        case rel => exact ⟨k + 1, by omega, by rw [show 28 * (k + 1) = q + 28 by have := HQ.out; omega]; simp, by rw [List.range_succ]; exact hJ3, hB.drew.trans hk3⟩
        case measure => simp [intOf]; omega
      · gi_wp2
        refine bodyPost_ret (results_none rfl _ _ _) rfl ?_
        exact ⟨⟨_, rfl⟩, .inr ⟨_, trivial, hJx3⟩⟩
    · have hkm : ¬ (28 * k < m) := by omega
      have hkN : k = (m + 27) / 28 := by omega
      obtain ⟨q, hq⟩ : ∃ q, 28 * k = q := ⟨_, rfl⟩
      rw [hq] at hkm ⊢
      have hqI : ¬ ((q : Int) < (m : Int)) := by omega
      have hJN : J (List.range ((m + 27) / 28)) wr := by rw [← hkN]; exact hJ
      clear hq hkN
      gi_wp2
      go_end0
      first | exact ⟨⟨_, rfl⟩, .inl hJN⟩ | exact .inl hJN | exact ⟨⟨_, rfl⟩, .inl ⟨_, rfl, hJN⟩⟩
theorem chunk_stops (n : Nat) (hn : 1 ≤ n) (g1 g2 b off m cap : Nat) (w : World) (hm : m ≤ 100000) (hcap : m ≤ cap) (hg1 : g1 < w.heap.size) (hg2 : g2 < w.heap.size)
    (hc1 : w.cell? ⟨g1, 0, none⟩ = some (.slice (some ⟨b, off, none⟩) m cap)) (hc2 : w.cell? ⟨g2, 0, none⟩ = some (.int .i64 28)) :
    SeqStopsK Fence.wide n Try.prog 51 #[.pointer (some ⟨g1, 0, none⟩), .pointer (some ⟨g2, 0, none⟩)] (fun x : Nat => #[partV b off m x]) (Below w.heap.size) (fun ys => ys = List.range ((m + 27) / 28)) (fun _ => True) ((m + 27) / 28) w := fun l J Jx W hW hJ _ hY h0 =>
  chunk1_in n hn l g1 g2 w.heap.size b off m cap hm hcap hg1 hg2 J Jx hY (fun s A B row hs hg hr => hJ s A B row hs hg (fun r e => (hr r e).elim)) W hW.size ((hW.cell (p := ⟨g1, 0, none⟩) hg1).trans hc1) ((hW.cell (p := ⟨g2, 0, none⟩) hg2).trans hc2) h0
theorem infoV : (Try.prog.info? 35).map (fun i => (i.zero, i.size, i.bytes)) = some (some (.slice none 0 0), 1, 24) := by kernel_rfl
set_option maxRecDepth 100000 in
set_option maxHeartbeats 2000000 in
theorem appendSeq_in (g1 g2 b off m cap : Nat) (w : World) (hm : m ≤ 20000) (hcap : m ≤ cap) (hg1 : g1 < w.heap.size) (hg2 : g2 < w.heap.size)
    (hc1 : w.cell? ⟨g1, 0, none⟩ = some (.slice (some ⟨b, off, none⟩) m cap)) (hc2 : w.cell? ⟨g2, 0, none⟩ = some (.int .i64 28)) :
    CallsIn Fence.wide 5 Try.prog 50 #[.slice none 0 0, .func (.func 51) #[] #[.pointer (some ⟨g1, 0, none⟩), .pointer (some ⟨g2, 0, none⟩)]] w fun e W' => ∃ v, e = .returned v ∧ OwnG (partV b off m) 35 W' w.heap.size v (List.range ((m + 27) / 28)) ∧ Ext w W' := by
  obtain ⟨i0, hi, hz0, hz1, hz2⟩ := info_parts infoV
  refine callsIn_of_wp_marks Try.func50 rfl trivial ?_ rfl
  simp only [Try.ntmps50, List.size_toArray, List.length_cons, List.length_nil, Nat.reduceAdd, Nat.reduceSub, Array.replicate_succ, Array.replicate_zero, List.push_toArray, List.append_toArray, List.nil_append, List.cons_append]
  gi_wp2
  have bO := Boxed.new w 31 (.slice none 0 0)
  have hB0 : Below w.heap.size w (w.alloc (.cells #[.slice none 0 0] 31)) := (Below.refl _ w).alloc (Nat.le_refl _) _
  refine wpIn_rangeFunc_ownG rfl (by decide) (gf := 51) (lb := #[.pointer (some ⟨g1, 0, none⟩), .pointer (some ⟨g2, 0, none⟩)]) rfl trivial (enters_of Try.func51 (by kernel_rfl) rfl)
    (chunk_stops (5 - 1) (by decide) g1 g2 b off m cap w (by omega) hcap hg1 hg2 hc1 hc2) belowK_t (belowK_b (by simp)) hB0 (fun _ => rfl)
    (fun pre W => (∃ v, Boxed W w.heap.size 31 v ∧ W.ownsRow w.heap.size 35 1 v pre.length (pre.map (partV b off m)) ∧ True) ∧ Below w.heap.size w W)
    (fun _ _ _ => False)
    (OwnFrom.and (Own.from (holdsRow_own w.heap.size w.heap.size 31 35 1 (fun pre : List Nat => pre.length) (fun pre => pre.map (partV b off m)) (fun _ _ => True)) _) (ownFrom_below (Nat.le_refl _) (by simp)))
    (fun _ _ _ _ _ hs _ _ => hs)
    ⟨⟨_, bO, World.ownsRow_nil _ _ _ _, trivial⟩, hB0⟩
    (fun x => { tmps := #[.slice none 0 0, .func (.func 51) #[] #[.pointer (some ⟨g1, 0, none⟩), .pointer (some ⟨g2, 0, none⟩)], .pointer (some ⟨w.heap.size, 0, none⟩), undef, .slice none 0 0, partV b off m x, .func (.func 51) #[] #[.pointer (some ⟨g1, 0, none⟩), .pointer (some ⟨g2, 0, none⟩)], partV b off m x, undef, undef, undef, undef, undef], defers := [] }) ?assign ?body ?done ?stop
  case assign =>
    intro l x W K hK
    gi_wp2
    exact hK
  case body =>
    rintro l pre x W ⟨⟨v, hv, hrow, _⟩, hB⟩ hlt
    have hc := hv.cell
    have hpl : pre.length ≤ 715 := by omega
    obtain ⟨o', ho'⟩ : ∃ o', off + 28 * x = o' := ⟨_, rfl⟩
    obtain ⟨c', hc'⟩ : ∃ c', min 28 (m - 28 * x) = c' := ⟨_, rfl⟩
    have HPV : Hid (partV b off m x = .slice (some ⟨b, o', none⟩) c' c') := by show _ = _; unfold partV; rw [ho', hc']
    rw [HPV.out]
    clear ho' hc'
    gi_wp2_with (gi_at_builtin; refine wpListIn_append_own _ rfl _ _ 31 rfl w.heap.size 35 i0 (.slice none 0 0) 1 24 Try.underlying31 hi hz0 hz1 hz2 rfl (by decide) _ _ _ rfl (hrow.alloc _) ⟨W.heap.size, 0, none⟩ 1 1 [.slice (some ⟨b, o', none⟩) c' c'] rfl rfl (cell_one_new _ _ _) (by simp [Value.oneCell']) (by unfold maxLen; omega) (by omega) (by have := hB.size; simp; omega) ?_; intro v' w1 hown' hgrow _; obtain ⟨g', cap', rfl⟩ := ownsRow_succ hown'; obtain ⟨hv1, hv2, hr2, hk2, hb2⟩ := hv.appended (by decide) hrow hB.size (Nat.le_refl _) hown' hgrow; have hc1 := hv1.cell; have hf1 := hv1.frozen)
    exact ⟨hk2.from _, hb2, ⟨_, hv2, by rw [List.length_append, List.map_append, show [x].map (partV b off m) = [Value.slice (some ⟨b, o', none⟩) c' c'] by rw [List.map_singleton, HPV.out]]; exact hr2, trivial⟩, hB.trans hb2⟩
  case done =>
    rintro D ys W hD rfl ⟨⟨v, hv, hrow, _⟩, hB⟩ hK
    have hc := hv.cell
    gi_wp2
    refine ⟨by simp, .inl ⟨_, _, rfl, run_takeDeferred hK, ?_⟩⟩
    exact ⟨_, results_tmp rfl _ _ _, v, rfl, ownsRow_putObj hrow _ hK rfl, hB.trans (belowK_b (w := w) (Nat.le_refl _) W D _ _ (by simp at hD; omega) hK rfl rfl)⟩
  case stop =>
    rintro D c pre W _ _ h _
    exact h.elim
end Go.Proofs.Ythjcdikpomlpmaa
