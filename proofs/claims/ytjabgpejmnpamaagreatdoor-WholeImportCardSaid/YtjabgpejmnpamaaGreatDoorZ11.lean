/-
  Part 11 of the proof: Chapter 30 (label): slices.Collect over slices.Chunk: the parts of a p Slices of rows of bytes: as they read; own rows of own rows. Chapter 30 (label): Encode. The frame of a law's proof where the row lists a variable: what the va tegulatop.awake31: a drive stores a block, and a label is encoded. Chapter 31 (election): the plain law: the first greatest candidate, an Chapter 30 (label): Cut and Encode of the reference. Chapter 30 (label): what a law's arguments are. Chapter 30 (label): the example of the document; the walk of LabelEnco
-/
import Derived.RangeFuncBox
import Derived.RangeFuncLeaves
import Derived.Shelf.Abstract
import Derived.WalkKit
import Derived.OwnWalkIn
import Derived.TacticsInMore
import Derived.LoopNIn
import Derived.LoopIn
import Derived.Maps.AppendAt
import Derived.Test.YtjabgpejmnpamaaGreatDoorZ10
import Derived.Test.YtjabgpejmnpamaaGreatDoorZ01
import Derived.LaidMore
import Derived.LaidHandle
import Derived.LaidLaws
import Derived.MakeChecks
import Derived.ChangeVars
import Derived.ChangeSame
import Derived.Handed
import Derived.Stop.Joined
import Derived.Test.YtjabgpejmnpamaaGreatDoorZ06
import Derived.Test.YtjabgpejmnpamaaGreatDoorZ09
import Derived.Test.YtjabgpejmnpamaaGreatDoorZ02
set_option linter.unusedVariables false
namespace Go.Proofs.YtjabgpejmnpamaaGreatDoor
open Go.RowKit Go.Shelf
attribute [local go_sem] Oper.semAt_some
theorem run_min3 {P : Program} (w : World) (ts : Array TypeId) (t : TypeId) (a b : Int) :
    (Builtin.min_ ts t #[.int .i64 a, .int .i64 b]).run P w = .ok (.int .i64 (min a b)) w := by
  have e : (if b < a then b else a) = min a b := by split <;> omega
  have : (Builtin.min_ ts t #[.int .i64 a, .int .i64 b]).run P w = .ok (.int .i64 (if b < a then b else a)) w := rfl
  rw [this, e]
abbrev partV (b off m i : Nat) : Value := .slice (some ⟨b, off + 28 * i, none⟩) (min 28 (m - 28 * i)) (min 28 (m - 28 * i))
set_option maxRecDepth 100000 in
set_option maxHeartbeats 2000000 in
theorem chunk1_in (n : Nat) (hn : 1 ≤ n) (l g1 g2 n₀ b off m cap : Nat) (hm : m ≤ 100000) (hcap : m ≤ cap) (hg1 : g1 < n₀) (hg2 : g2 < n₀) (J Jx : List Nat → World → Prop)
    (hY : ∀ pre x W, J pre W → pre.length < (m + 27) / 28 → YieldAt Fence.wide (n - 1) Tryz.prog l #[partV b off m x] W fun e W' =>
      (e = .returned (.bool true) ∧ J (pre ++ [x]) W' ∧ Below n₀ W W') ∨ (e = .returned (.bool false) ∧ Jx (pre ++ [x]) W'))
    (hJa : ∀ (s : List Nat) (A B : World) (row : Option Nat), J s A → A.grownBy B row → (∀ r, row = some r → False) → J s B)
    (W : World) (hW : n₀ ≤ W.heap.size) (hc1 : W.cell? ⟨g1, 0, none⟩ = some (.slice (some ⟨b, off, none⟩) m cap)) (hc2 : W.cell? ⟨g2, 0, none⟩ = some (.int .i64 28)) (h0 : J [] W) :
    CallsIn Fence.wide n Tryz.prog 72 #[.func (.yield l) #[] #[], .pointer (some ⟨g1, 0, none⟩), .pointer (some ⟨g2, 0, none⟩)] W fun e W' => (∃ v, e = .returned v) ∧
      ((∃ ys, ys = List.range ((m + 27) / 28) ∧ J ys W') ∨ (∃ pre, True ∧ Jx pre W')) := by
  refine callsIn_of_wp Tryz.func72 rfl trivial ?_ rfl
  simp only [Tryz.ntmps72, List.size_toArray, List.length_cons, List.length_nil, Nat.reduceAdd, Nat.reduceSub, Array.replicate_succ, Array.replicate_zero, List.push_toArray, List.append_toArray, List.nil_append, List.cons_append]
  gi_wp2
  gi_loopw [4] (fun it wr => ∃ k : Nat, k ≤ (m + 27) / 28 ∧ it = .int .i64 ((28 * k : Nat) : Int) ∧ J (List.range k) wr ∧ Below n₀ W wr) (fun it _ => 100100 - (intOf it).toNat)
  case atStart => exact ⟨0, Nat.zero_le _, rfl, h0, Below.refl _ _⟩
  case round =>
    obtain ⟨k, hk, rfl, hJ, hB⟩ := hrel
    have d1 : wr.cell? ⟨g1, 0, none⟩ = some (.slice (some ⟨b, off, none⟩) m cap) := (hB.cell (p := ⟨g1, 0, none⟩) hg1).trans hc1
    have d2 : wr.cell? ⟨g2, 0, none⟩ = some (.int .i64 28) := (hB.cell (p := ⟨g2, 0, none⟩) hg2).trans hc2
    have hl1 : g1 < wr.heap.size := Nat.lt_of_lt_of_le hg1 (Nat.le_trans hW hB.size)
    have hl2 : g2 < wr.heap.size := Nat.lt_of_lt_of_le hg2 (Nat.le_trans hW hB.size)
    by_cases hlt : k < (m + 27) / 28
    · have hkm : 28 * k < m := by omega
      obtain ⟨q, hq⟩ : ∃ q, 28 * k = q := ⟨_, rfl⟩
      have hqI : (q : Int) < (m : Int) := by omega
      have hq0 : (0 : Int) ≤ (q : Int) := by omega
      have hqm : (q : Int) ≤ (m : Int) := by omega
      have hqc : (q : Int) ≤ (cap : Int) := by omega
      have hmc : (m : Int) ≤ (cap : Int) := by omega
      have hqne : ¬ (cap = q) := by omega
      have hqneI : ¬ ((cap : Int) = (q : Int)) := by omega
      have HQ := Lib.hid hq
      obtain ⟨c, hcq⟩ : ∃ c, min 28 (m - q) = c := ⟨_, rfl⟩
      rw [hq] at hkm ⊢
      clear hq
      gi_wp2
      refine wpIn_wide.2 ?_
      refine wp_region_ext [(0, true), (1, true), (2, true), (3, true), (4, true), (5, true), (6, true)] (by kernel_rfl) (by kernel_rfl) ?_
      have hmin1 : min (28 : Int) ((m - q : Nat) : Int) = (c : Int) := by omega
      have hmin2 : min (28 : Int) ((m : Int) - (q : Int)) = (c : Int) := by omega
      have hmin := fun (w : World) (ts : Array TypeId) (t : TypeId) (a b : Int) => run_min3 (P := Tryz.prog) w ts t a b
      iterate 7 ((first
       | refine ext_move rfl rfl (by rfl) (by rfl) ?_
       | refine ext_assign rfl rfl (by rfl) (by rfl) ?_
       | refine ext_pick_t rfl rfl (by rfl) (by rfl) (by rfl) ?_
       | refine ext_pick_f rfl rfl (by rfl) (by rfl) (by rfl) ?_
       | (apply ext_take rfl (by rfl)
          · intro w' hS
            have hSc := hS.cells
            (try simp only [World.size_drew, World.cell?_drew] at hSc)
            go_simp
            (try simp (disch := omega) only [i64_id, u64_id, ↓IntWalk.iteOmega, Int.tdiv_eq_ediv_of_nonneg, Int.tmod_eq_emod_of_nonneg])
            try rfl)
       | refine ext_pass rfl (by rfl) ?_); simp only [Act.put, setZa, setZ0, setZ1])
      refine ext_nil ?_
      have hJd := hJa _ _ _ none hJ (grown_drew (grown_refl wr none)) (fun r e => by cases e)
      obtain ⟨fn, tmps, assign, body, hy, hR⟩ := hY _ k wr.drew hJd (by rw [List.length_range]; exact hlt)
      have hpv : partV b off m k = .slice (some ⟨b, off + q, none⟩) c c := by unfold partV; rw [HQ.out, hcq]
      rw [hpv] at hy
      have d1' : wr.drew.cell? ⟨g1, 0, none⟩ = some (.slice (some ⟨b, off, none⟩) m cap) := by rw [World.cell?_drew]; exact d1
      have d2' : wr.drew.cell? ⟨g2, 0, none⟩ = some (.int .i64 28) := by rw [World.cell?_drew]; exact d2
      have hqc1 : (q : Int) + (c : Int) ≤ (cap : Int) := by omega
      have hqc2 : (q : Int) ≤ (q : Int) + (c : Int) := by omega
      have hqw1 : IntKind.i64.wrap ((q : Int) + (c : Int)) = ((q + c : Nat) : Int) := by rw [i64_wrap]; omega
      have hqw2 : Go.RowKit.wrap64 ((q : Int) + (c : Int)) = ((q + c : Nat) : Int) := by unfold Go.RowKit.wrap64; omega
      obtain ⟨z, hz⟩ : ∃ z, q + c = z := ⟨_, rfl⟩
      rw [hz] at hqw1 hqw2
      have hzq : q ≤ z := by omega
      have hzc : z ≤ cap := by omega
      have hzqI : (q : Int) ≤ (z : Int) := by omega
      have hzcI : (z : Int) ≤ (cap : Int) := by omega
      have hz0 : (0 : Int) ≤ (z : Int) := by omega
      have hzne : ¬ (z = q) := by omega
      have hzsub : z - q = c := by omega
      clear hmin1 hmin2 hmin hcq hpv hz hqc1 hqc2
      gi_wp2
      refine hR.mono ?_
      rintro e W3 (⟨rfl, hJ3, hk3⟩ | ⟨rfl, hJx3⟩)
      · have d3 : W3.cell? ⟨g2, 0, none⟩ = some (.int .i64 28) := (hk3.cell (p := ⟨g2, 0, none⟩) hg2).trans d2'
        clear d1 d2 d1' d2'
        gi_wp2
        go_roundw
        case rel => exact ⟨k + 1, by omega, by rw [show 28 * (k + 1) = q + 28 by have := HQ.out; omega]; simp, by rw [List.range_succ]; exact hJ3, hB.drew.trans hk3⟩
        case measure => simp [intOf]; omega
      · gi_wp2
        refine bodyPost_ret (results_none rfl _ _ _) rfl ?_
        exact ⟨⟨_, rfl⟩, .inr ⟨_, trivial, hJx3⟩⟩
    · have hkm : ¬ (28 * k < m) := by omega
      have hkN : k = (m + 27) / 28 := by omega
      obtain ⟨q, hq⟩ : ∃ q, 28 * k = q := ⟨_, rfl⟩
      rw [hq] at hkm ⊢
      have hqI : ¬ ((q : Int) < (m : Int)) := by omega
      have hJN : J (List.range ((m + 27) / 28)) wr := by rw [← hkN]; exact hJ
      clear hq hkN
      gi_wp2
      go_end0
      first | exact ⟨⟨_, rfl⟩, .inl hJN⟩ | exact .inl hJN | exact ⟨⟨_, rfl⟩, .inl ⟨_, rfl, hJN⟩⟩
theorem chunk_stops (n : Nat) (hn : 1 ≤ n) (g1 g2 b off m cap : Nat) (w : World) (hm : m ≤ 100000) (hcap : m ≤ cap) (hg1 : g1 < w.heap.size) (hg2 : g2 < w.heap.size)
    (hc1 : w.cell? ⟨g1, 0, none⟩ = some (.slice (some ⟨b, off, none⟩) m cap)) (hc2 : w.cell? ⟨g2, 0, none⟩ = some (.int .i64 28)) :
    SeqStopsK Fence.wide n Tryz.prog 72 #[.pointer (some ⟨g1, 0, none⟩), .pointer (some ⟨g2, 0, none⟩)] (fun x : Nat => #[partV b off m x]) (Below w.heap.size) (fun ys => ys = List.range ((m + 27) / 28)) (fun _ => True) ((m + 27) / 28) w := fun l J Jx W hW hJ _ hY h0 =>
  chunk1_in n hn l g1 g2 w.heap.size b off m cap hm hcap hg1 hg2 J Jx hY (fun s A B row hs hg hr => hJ s A B row hs hg (fun r e => (hr r e).elim)) W hW.size ((hW.cell (p := ⟨g1, 0, none⟩) hg1).trans hc1) ((hW.cell (p := ⟨g2, 0, none⟩) hg2).trans hc2) h0
theorem infoV : (Tryz.prog.info? 47).map (fun i => (i.zero, i.size, i.bytes)) = some (some (.slice none 0 0), 1, 24) := by kernel_rfl
set_option maxRecDepth 100000 in
set_option maxHeartbeats 2000000 in
theorem appendSeq_in (g1 g2 b off m cap : Nat) (w : World) (hm : m ≤ 20000) (hcap : m ≤ cap) (hg1 : g1 < w.heap.size) (hg2 : g2 < w.heap.size)
    (hc1 : w.cell? ⟨g1, 0, none⟩ = some (.slice (some ⟨b, off, none⟩) m cap)) (hc2 : w.cell? ⟨g2, 0, none⟩ = some (.int .i64 28)) :
    CallsIn Fence.wide 5 Tryz.prog 71 #[.slice none 0 0, .func (.func 72) #[] #[.pointer (some ⟨g1, 0, none⟩), .pointer (some ⟨g2, 0, none⟩)]] w fun e W' => ∃ v, e = .returned v ∧ OwnG (partV b off m) 47 W' w.heap.size v (List.range ((m + 27) / 28)) ∧ Ext w W' := by
  obtain ⟨i0, hi, hz0, hz1, hz2⟩ := info_parts infoV
  refine callsIn_of_wp_marks Tryz.func71 rfl trivial ?_ rfl
  simp only [Tryz.ntmps71, List.size_toArray, List.length_cons, List.length_nil, Nat.reduceAdd, Nat.reduceSub, Array.replicate_succ, Array.replicate_zero, List.push_toArray, List.append_toArray, List.nil_append, List.cons_append]
  gi_wp2
  have bO := Boxed.new w 33 (.slice none 0 0)
  have hB0 : Below w.heap.size w (w.alloc (.cells #[.slice none 0 0] 33)) := (Below.refl _ w).alloc (Nat.le_refl _) _
  refine wpIn_rangeFunc_ownG rfl (by decide) (gf := 72) (lb := #[.pointer (some ⟨g1, 0, none⟩), .pointer (some ⟨g2, 0, none⟩)]) rfl trivial (enters_of Tryz.func72 (by kernel_rfl) rfl)
    (chunk_stops (5 - 1) (by decide) g1 g2 b off m cap w (by omega) hcap hg1 hg2 hc1 hc2) belowK_t (belowK_b (by simp)) hB0 (fun _ => rfl)
    (fun pre W => (∃ v, Boxed W w.heap.size 33 v ∧ W.ownsRow w.heap.size 47 1 v pre.length (pre.map (partV b off m)) ∧ True) ∧ Below w.heap.size w W)
    (fun _ _ _ => False)
    (OwnFrom.and (Own.from (holdsRow_own w.heap.size w.heap.size 33 47 1 (fun pre : List Nat => pre.length) (fun pre => pre.map (partV b off m)) (fun _ _ => True)) _) (ownFrom_below (Nat.le_refl _) (by simp)))
    (fun _ _ _ _ _ hs _ _ => hs)
    ⟨⟨_, bO, World.ownsRow_nil _ _ _ _, trivial⟩, hB0⟩
    (fun x => { tmps := #[.slice none 0 0, .func (.func 72) #[] #[.pointer (some ⟨g1, 0, none⟩), .pointer (some ⟨g2, 0, none⟩)], .pointer (some ⟨w.heap.size, 0, none⟩), undef, .slice none 0 0, partV b off m x, .func (.func 72) #[] #[.pointer (some ⟨g1, 0, none⟩), .pointer (some ⟨g2, 0, none⟩)], partV b off m x, undef, undef, undef, undef, undef], defers := [] }) ?assign ?body ?done ?stop
  case assign =>
    intro l x W K hK
    gi_wp2
    exact hK
  case body =>
    rintro l pre x W ⟨⟨v, hv, hrow, _⟩, hB⟩ hlt
    have hc := hv.cell
    have hpl : pre.length ≤ 715 := by omega
    obtain ⟨o', ho'⟩ : ∃ o', off + 28 * x = o' := ⟨_, rfl⟩
    obtain ⟨c', hc'⟩ : ∃ c', min 28 (m - 28 * x) = c' := ⟨_, rfl⟩
    have HPV : Hid (partV b off m x = .slice (some ⟨b, o', none⟩) c' c') := by show _ = _; unfold partV; rw [ho', hc']
    rw [HPV.out]
    clear ho' hc'
    gi_wp2_with (gi_at_builtin; refine wpListIn_append_own _ rfl _ _ 33 rfl w.heap.size 47 i0 (.slice none 0 0) 1 24 Tryz.underlying33 hi hz0 hz1 hz2 rfl (by decide) _ _ _ rfl (hrow.alloc _) ⟨W.heap.size, 0, none⟩ 1 1 [.slice (some ⟨b, o', none⟩) c' c'] rfl rfl (cell_one_new _ _ _) (by simp [Value.oneCell']) (by unfold maxLen; omega) (by omega) (by have := hB.size; simp; omega) ?_; intro v' w1 hown' hgrow _; obtain ⟨g', cap', rfl⟩ := ownsRow_succ hown'; obtain ⟨hv1, hv2, hr2, hk2, hb2⟩ := hv.appended (by decide) hrow hB.size (Nat.le_refl _) hown' hgrow; have hc1 := hv1.cell; have hf1 := hv1.frozen)
    exact ⟨hk2.from _, hb2, ⟨_, hv2, by rw [List.length_append, List.map_append, show [x].map (partV b off m) = [Value.slice (some ⟨b, o', none⟩) c' c'] by rw [List.map_singleton, HPV.out]]; exact hr2, trivial⟩, hB.trans hb2⟩
  case done =>
    rintro D ys W hD rfl ⟨⟨v, hv, hrow, _⟩, hB⟩ hK
    have hc := hv.cell
    gi_wp2
    refine ⟨by simp, .inl ⟨_, _, rfl, run_takeDeferred hK, ?_⟩⟩
    exact ⟨_, results_tmp rfl _ _ _, v, rfl, ownsRow_putObj hrow _ hK rfl, hB.trans (belowK_b (w := w) (Nat.le_refl _) W D _ _ (by simp at hD; omega) hK rfl rfl)⟩
  case stop =>
    rintro D c pre W _ _ h _
    exact h.elim
end Go.Proofs.YtjabgpejmnpamaaGreatDoor

namespace Go.Proofs.YtjabgpejmnpamaaGreatDoor
open Go.RowKit
abbrev SV := Option Addr × Nat × Nat
abbrev encS (s : SV) : Value := .slice s.1 s.2.1 s.2.2
theorem SliceAt.get0 {α : Type} {enc : α → Value} {w : World} {ad : Option Addr} {n cap : Nat} {l : List α} (h : SliceAt enc w (.slice ad n cap) l) (i : Nat) (hi : i < l.length) :
    ∃ b off, ad = some ⟨b, off, none⟩ ∧ b < w.heap.size ∧ w.cell? ⟨b, off + i, none⟩ = some (enc l[i]) := by
  obtain ⟨ad', cap', hv, _, h⟩ := h
  injection hv with h1 _ _
  rcases h with ⟨h0, _⟩ | ⟨b, off, h2, h3, h4⟩
  · subst h0; exact absurd hi (by simp)
  · exact ⟨b, off, h1.trans h2, h3, h4 i hi⟩
def RowsB (w : World) (v : Value) (S : List (List (BitVec 8))) : Prop :=
  ∃ vs : List SV, SliceAt encS w v vs ∧ vs.length = S.length ∧ ∀ i (h1 : i < vs.length) (h2 : i < S.length), SliceAt encB w (encS vs[i]) S[i]
theorem RowsB.ext {w w' : World} {v : Value} {S : List (List (BitVec 8))} (h : RowsB w v S) (e : Ext w w') : RowsB w' v S := by
  obtain ⟨vs, h1, h2, h3⟩ := h
  exact ⟨vs, h1.ext e, h2, fun i a b => (h3 i a b).ext e⟩
theorem RowsB.nil {w : World} : RowsB w (.slice none 0 0) [] := ⟨[], SliceAt.nil, rfl, fun i h => absurd h (by simp)⟩
theorem RowsB.shape {w : World} {v : Value} {S : List (List (BitVec 8))} (h : RowsB w v S) : ∃ ad cap, v = .slice ad S.length cap ∧ S.length ≤ cap := by
  obtain ⟨vs, ⟨ad, cap, hv, hc, _⟩, h2, _⟩ := h
  exact ⟨ad, cap, by rw [hv, h2], by rw [← h2]; exact hc⟩
theorem RowsB.get {w : World} {ad : Option Addr} {n cap : Nat} {S : List (List (BitVec 8))} (h : RowsB w (.slice ad n cap) S) (i : Nat) (hi : i < S.length) :
    ∃ b off, ad = some ⟨b, off, none⟩ ∧ b < w.heap.size ∧ ∃ a c, w.cell? ⟨b, off + i, none⟩ = some (.slice a S[i].length c) ∧ SliceAt encB w (.slice a S[i].length c) S[i] := by
  obtain ⟨vs, h1, h2, h3⟩ := h
  have hi2 : i < vs.length := by rw [h2]; exact hi
  obtain ⟨b, off, e1, e2, e3⟩ := h1.get0 i hi2
  have h4 := h3 i hi2 hi
  obtain ⟨a, c, hv, hc, hr⟩ := h4
  refine ⟨b, off, e1, e2, a, c, ?_, ⟨a, c, rfl, hc, hr⟩⟩
  rw [e3, hv]
def OwnL (w : World) (base : Nat) (v : Value) (S : List (List (BitVec 8))) : Prop :=
  ∃ vs : List SV, OwnG encS 47 w base v vs ∧ vs.length = S.length ∧ ∀ i (h1 : i < vs.length) (h2 : i < S.length), OwnG encB 5 w base (encS vs[i]) S[i]
theorem OwnL.nil {w : World} {base : Nat} : OwnL w base (.slice none 0 0) [] := ⟨[], OwnG.nil, rfl, fun i h => absurd h (by simp)⟩
theorem OwnL.ext {w w' : World} {base : Nat} {v : Value} {S : List (List (BitVec 8))} (h : OwnL w base v S) (e : Ext w w') : OwnL w' base v S := by
  obtain ⟨vs, h1, h2, h3⟩ := h
  exact ⟨vs, h1.ext e, h2, fun i a b => (h3 i a b).ext e⟩
theorem OwnL.lower {w : World} {base b' : Nat} {v : Value} {S : List (List (BitVec 8))} (h : OwnL w base v S) (hb : b' ≤ base) : OwnL w b' v S := by
  obtain ⟨vs, h1, h2, h3⟩ := h
  exact ⟨vs, h1.lower hb, h2, fun i a b => (h3 i a b).lower hb⟩
theorem OwnL.rows {w : World} {base : Nat} {v : Value} {S : List (List (BitVec 8))} (h : OwnL w base v S) : RowsB w v S := by
  obtain ⟨vs, h1, h2, h3⟩ := h
  exact ⟨vs, h1.slice, h2, fun i a b => (h3 i a b).slice⟩
theorem OwnL.shape {w : World} {base : Nat} {v : Value} {S : List (List (BitVec 8))} (h : OwnL w base v S) : ∃ a c, v = .slice a S.length c := by
  obtain ⟨a, c, e, _⟩ := h.rows.shape
  exact ⟨a, c, e⟩
theorem OwnL.lt {w : World} {base : Nat} {v : Value} {S : List (List (BitVec 8))} (h : OwnL w base v S) : ∀ g, v.ownBlock = some g → base ≤ g ∧ g < w.heap.size := by
  obtain ⟨vs, h1, _⟩ := h
  exact h1.lt
theorem rows_apart {α β : Type} {enc : α → Value} {enc' : β → Value} {e e' : TypeId} {w : World} {b b' : Nat} {v v' : Value} {l : List α} {l' : List β} (h : OwnG enc e w b v l) (h' : OwnG enc' e' w b' v' l') (hne : e ≠ e') : ∀ g, v.ownBlock = some g → v'.ownBlock ≠ some g := by
  intro g hg
  rcases h.2 with ⟨h1, _⟩ | ⟨g', cap, cur, h1, h2, h3, _⟩
  · rw [h1] at hg; simp [Value.ownBlock] at hg
  · rw [h1] at hg; simp [Value.ownBlock] at hg
    subst hg
    exact h'.not_box (show BoxAt w g' cur e from h3) hne
theorem wpList_append_row {ops : Array Oper} {rest : List Oper} {o : Oper} {a : Act} {w : World} {Q : Exit → Act → World → Prop} (hgd : o.guard = none) (s x : Operand)
    (ho : o.op = .call { callee := .builtin .append, args := #[s, x], argTypes := #[33, 33] })
    (B : Nat) (v : Value) (S : List (List (BitVec 8))) (hs : a.eval s = v) (hown : OwnL w B v S) {g n c : Nat} {ad : Option Addr} {l : List (BitVec 8)} (hx : a.eval x = .slice (some ⟨g, 0, none⟩) 1 1) (hc : w.cell? ⟨g, 0, none⟩ = some (.slice ad n c)) (hl : OwnG encB 5 w B (.slice ad n c) l)
    (hn : S.length ≤ 100000) (hbase : B ≤ w.heap.size)
    (h : ∀ v' w', OwnL w' B v' (S ++ [l]) → w.grownBy w' v.ownBlock → wpList Tryz.prog ops Q rest (a.put o.dst v') w') : wpList Tryz.prog ops Q (o :: rest) a w := by
  have hi0 : (Tryz.prog.info? 47).map (fun i => (i.zero, i.size, i.bytes)) = some (some (.slice none 0 0), 1, 24) := by kernel_rfl
  obtain ⟨i0, hi, hz0, hz1, hz2⟩ := info_parts hi0
  obtain ⟨vs, h1, h2, h3⟩ := hown
  refine wpList_append_one hgd s x _ ho B 47 i0 (.slice none 0 0) 24 Tryz.underlying33 hi hz0 hz1 hz2 rfl v _ _ hs h1 _ (.slice ad n c) rfl hx hc (by unfold maxLen; omega) (by omega) hbase (fun v' w' ho' hg' _ => h v' w' ?_ hg')
  have keep : ∀ {u : Value} {l : List (BitVec 8)}, OwnG encB 5 w B u l → OwnG encB 5 w' B u l := by
    intro u l hu
    refine OwnG.kept hu hg' ?_
    cases hv : u.ownBlock with
    | none => exact .inr rfl
    | some g => exact .inl fun e => rows_apart hu h1 (by decide) g hv e.symm
  refine ⟨vs ++ [(ad, n, c)], OwnG.snoc (enc := encS) (x := (ad, n, c)) ho', by simp [h2], fun i a b => ?_⟩
  by_cases hi : i < vs.length
  · rw [List.getElem_append_left hi, List.getElem_append_left (by omega)]
    exact keep (h3 i hi (by omega))
  · have : i = vs.length := by simp at a; omega
    subst this
    rw [List.getElem_append_right (by omega), List.getElem_append_right (by omega)]
    simp only [Nat.sub_self, List.getElem_singleton, h2]
    exact keep hl
end Go.Proofs.YtjabgpejmnpamaaGreatDoor

namespace Go.Proofs.YtjabgpejmnpamaaGreatDoor
open Go.RowKit
theorem slice_lit3 {α : Type} {enc : α → Value} {w : World} {o : Obj} {l : List α} {cs : Array Value} {t : TypeId} (h : cs = (l.map enc).toArray) : SliceAt enc ((w.alloc o).alloc (.cells cs t)) (.slice (some ⟨w.heap.size + 1, 0, none⟩) l.length l.length) l := by
  have := SliceAt.lit (w.alloc o) l t (0, 0) cs h
  rwa [World.size_alloc] at this
theorem SliceAt.some_of' {α : Type} {enc : α → Value} {w : World} {ad : Option Addr} {n c : Nat} {l : List α} (h : SliceAt enc w (.slice ad n c) l) (hl : 0 < l.length) : ∃ b off, ad = some ⟨b, off, none⟩ ∧ n = l.length ∧ n ≤ c := by
  obtain ⟨ad', cap', hv, hc, h⟩ := h
  injection hv with h1 h2 h3
  subst h2 h3
  rcases h with ⟨h0, _⟩ | ⟨b, off, h4, _⟩
  · subst h0; simp at hl
  · exact ⟨b, off, h1.trans h4, rfl, hc⟩
theorem part_at {w : World} {b off m cap : Nat} {p : List (BitVec 8)} (h : SliceAt encB w (.slice (some ⟨b, off, none⟩) m cap) p) (i : Nat) : SliceAt encB w (partV b off m i) (Lb.partAt p i) := by
  obtain ⟨ad', cap', hv, hc, h⟩ := h
  injection hv with h1 h2 h3
  subst h2
  have hl : (Lb.partAt p i).length = min 28 (p.length - 28 * i) := by unfold Lb.partAt; rw [List.length_take, List.length_drop]
  refine ⟨some ⟨b, off + 28 * i, none⟩, min 28 (p.length - 28 * i), by rw [hl], by rw [hl]; exact Nat.le_refl _, ?_⟩
  rcases h with ⟨h0, _⟩ | ⟨b', off', h4, hlt, hcell⟩
  · subst h0
    exact .inl ⟨by unfold Lb.partAt; simp, fun e => by cases e⟩
  · rw [← h1] at h4
    injection h4 with h4
    injection h4 with h5 h6 _
    subst h5 h6
    refine .inr ⟨b, off + 28 * i, rfl, hlt, fun j hj => ?_⟩
    rw [hl] at hj
    have hj2 : j < (Lb.partAt p i).length := by rw [hl]; exact hj
    have e : (Lb.partAt p i)[j] = p[28 * i + j] := by simp only [Lb.partAt, List.getElem_take, List.getElem_drop]
    rw [show off + 28 * i + j = off + (28 * i + j) by omega, hcell (28 * i + j) (by omega), e]
theorem chunk_any (ad : Option Addr) (m c : Nat) (w : World) :
    Calls Tryz.prog 32 #[.slice ad m c, .int .i64 28] w fun e w' => e = .returned (.func (.func 72) #[] #[.pointer (some ⟨w.heap.size, 0, none⟩), .pointer (some ⟨w.heap.size + 1, 0, none⟩)]) ∧ w' = (w.alloc (.cells #[.slice ad m c] 47)).alloc (.cells #[.int .i64 28] 3) := by
  go_enter Tryz.func32, Tryz.ntmps32
  go_wp2_with fail
  go_ret
  exact ⟨rfl, rfl⟩
theorem collect_any (g1 g2 b off m cap : Nat) (w : World) (hm : m ≤ 20000) (hcap : m ≤ cap) (hg1 : g1 < w.heap.size) (hg2 : g2 < w.heap.size)
    (hc1 : w.cell? ⟨g1, 0, none⟩ = some (.slice (some ⟨b, off, none⟩) m cap)) (hc2 : w.cell? ⟨g2, 0, none⟩ = some (.int .i64 28)) :
    Calls Tryz.prog 31 #[.func (.func 72) #[] #[.pointer (some ⟨g1, 0, none⟩), .pointer (some ⟨g2, 0, none⟩)]] w fun e W' => ∃ v, e = .returned v ∧ OwnG (partV b off m) 47 W' w.heap.size v (List.range ((m + 27) / 28)) ∧ Ext w W' := by
  go_enter Tryz.func31, Tryz.ntmps31
  go_wp2_with fail
  go_at_call 71
  refine (callsIn_wide.1 (appendSeq_in g1 g2 b off m cap w hm hcap hg1 hg2 hc1 hc2)).mono ?_
  rintro e w2 ⟨v2, rfl, ho2, hx2⟩
  have HO := Lib.hid ho2
  have HX := Lib.hid hx2
  clear ho2 hx2
  go_wp2_with fail
  go_ret
  exact ⟨_, rfl, HO.out, HX.out⟩
def cutK (g d : Nat) (p : List (BitVec 8)) (k : Nat) : List (List (BitVec 8)) := (List.range k).map fun i => Lb.sectorL g d i (Lb.partsN p) (Lb.partAt p i)
theorem cutK_next (g d : Nat) (p : List (BitVec 8)) (k : Nat) : cutK g d p (k + 1) = cutK g d p k ++ [Lb.sectorL g d k (Lb.partsN p) (Lb.partAt p k)] := by unfold cutK; rw [List.range_succ, List.map_append]; rfl
theorem cutK_len (g d : Nat) (p : List (BitVec 8)) (k : Nat) : (cutK g d p k).length = k := by unfold cutK; simp
def encN' (l : Lab) (x : List Bool) : Nat := if validL l x then 0 else 1
def encR (l : Lab) (x : List Bool) : List (List (BitVec 8)) := if validL l x then Lb.encL l x else []
def EncEnd (w : World) (l : Lab) (x : List Bool) (e : Ending) (w' : World) : Prop := ∃ v, e = .returned (.tuple #[v, .int .i64 (encN' l x : Nat)]) ∧ OwnL w' w.heap.size v (encR l x) ∧ Ext w w'
set_option maxRecDepth 100000 in
set_option maxHeartbeats 4000000 in
theorem encode_any (l : Lab) (dv : Value) (x : List Bool) (w : World) (hl : x.length ≤ 100000) (h : SliceAt Value.bool w dv x) :
    Calls Tryz.prog 7 #[labV l dv] w (EncEnd w l x) := by
  have HV := Lib.hid (fun (w' : World) (e : Ext w w') => valid_any l dv x w' hl (h.ext e))
  have HP := Lib.hid (fun (w' : World) (e : Ext w w') (F : Lb.Fine l x) => payload_any l dv x w' F (h.ext e))
  obtain ⟨ad, cd, rfl⟩ := h.shape
  obtain ⟨n, hn⟩ : ∃ n, x.length = n := ⟨_, rfl⟩
  rw [hn] at HV HP ⊢
  have HB1 : Hid (BoxAt (w.alloc (.cells (labA l (.slice ad n cd)) 29)) w.heap.size (labA l (.slice ad n cd)) 29) := BoxAt.new _ _ _
  have HX1 : Hid (Ext w (w.alloc (.cells (labA l (.slice ad n cd)) 29))) := Ext.alloc _ _
  clear h hl hn
  go_enter Tryz.func7, Tryz.ntmps7
  go_upto_region 1 with fail
  generalize w.alloc (.cells (labA l (.slice ad n cd)) 29) = w1 at *
  go_wp2_with (refine wpList_loadR 29 _ rfl (by rfl) rfl (LabAt.of_box HB1.out).load ?_)
  go_at_call 30
  refine (HV.out _ HX1.out).mono ?_
  rintro e w2 ⟨rfl, hx2⟩
  have HX2 : Hid (Ext w w2) := HX1.out.trans hx2
  have HB2 := Lib.hid (HB1.out.ext hx2)
  clear hx2 HB1
  cases hv : validL l x with
  | false =>
    have HN : Hid (encN' l x = 1) := by show _ = _; unfold encN'; rw [hv]; rfl
    have HR : Hid (encR l x = []) := by show _ = _; unfold encR; rw [hv]; rfl
    go_wp2_with fail
    go_ret2
    exact ⟨_, by rw [HN.out]; rfl, by rw [HR.out]; exact OwnL.nil, HX2.out⟩
  | true =>
    have HN : Hid (encN' l x = 0) := by show _ = _; unfold encN'; rw [hv]; rfl
    have F := Lb.fine_of hv
    have HR : Hid (encR l x = cutK l.gen.toNat l.disk.toNat (Lb.payL l x) (Lb.partsN (Lb.payL l x))) := by show _ = _; unfold encR; rw [hv]; rfl
    have hpl := Lb.pay_len F
    have HF := Lib.hid F
    obtain ⟨dk, hdk⟩ := Int.eq_ofNat_of_zero_le F.disk.1
    have hdk60 : dk < 60 := by have := F.disk.2; omega
    have HDK : Hid ((dk : Int) = l.disk) := hdk.symm
    rw [hdk, Int.toNat_natCast] at HR
    have hgen := l.gen.isLt
    generalize Lb.payL l x = p at *
    obtain ⟨m, hm⟩ : ∃ m, p.length = m := ⟨_, rfl⟩
    have HM := Lib.hid hm
    rw [hm] at hpl
    have hN : Lb.partsN p = (m + 27) / 28 := by unfold Lb.partsN; rw [hm]
    obtain ⟨N, hNe⟩ : ∃ N, (m + 27) / 28 = N := ⟨_, rfl⟩
    have HNE := Lib.hid hNe
    rw [hNe] at hN
    have HPN := Lib.hid hN
    rw [hN] at HR
    have hN4 : N ≤ 4 := by omega
    clear hv F hdk hm hN hNe
    go_wp2_with (refine wpList_loadR 29 _ rfl (by rfl) rfl (LabAt.of_box HB2.out).load ?_)
    go_at_call 33
    refine (HP.out _ HX2.out HF.out).mono ?_
    rintro e w3 ⟨v3, rfl, hs3, hx3⟩
    obtain ⟨a3, c3, rfl⟩ := hs3.shape
    obtain ⟨b, off, rfl, _, hcap⟩ := hs3.some_of' (by rw [HM.out]; omega)
    rw [HM.out] at hs3 hcap ⊢
    have HS3 := Lib.hid hs3
    have HB3 := Lib.hid (HB2.out.ext hx3)
    have HX3 : Hid (Ext w w3) := HX2.out.trans hx3
    clear hs3 hx3 HB2 HX2
    go_wp2_with fail
    go_at_call 32
    refine (chunk_any _ _ _ _).mono ?_
    rintro e w4' ⟨rfl, rfl⟩
    have HC := Lib.hid (collect_any w3.heap.size (w3.heap.size + 1) b off m c3 ((w3.alloc (.cells #[.slice (some ⟨b, off, none⟩) m c3] 47)).alloc (.cells #[.int .i64 28] 3)) (by omega) hcap (by simp; omega) (by simp)
      (((BoxAt.new w3 #[.slice (some ⟨b, off, none⟩) m c3] 47).ext (Ext.alloc _ _)).cell 0 rfl) ((box_new2 w3 _ #[.int .i64 28] 3).cell 0 rfl))
    have HX4 : Hid (Ext w3 ((w3.alloc (.cells #[.slice (some ⟨b, off, none⟩) m c3] 47)).alloc (.cells #[.int .i64 28] 3))) := (Ext.alloc _ _).trans (Ext.alloc _ _)
    generalize (w3.alloc (.cells #[.slice (some ⟨b, off, none⟩) m c3] 47)).alloc (.cells #[.int .i64 28] 3) = w4 at *
    go_wp2_with fail
    go_at_call 31
    refine HC.out.mono ?_
    rintro e w5 ⟨v5, rfl, ho5, hx5⟩
    rw [HNE.out] at ho5
    obtain ⟨a5, c5, rfl⟩ := ho5.shape
    rw [List.length_range] at ho5 ⊢
    have HS5 := Lib.hid ho5.slice
    have HX35 := Lib.hid (HX4.out.trans hx5)
    have HB5 := Lib.hid (HB3.out.ext HX35.out)
    have HSP := Lib.hid (HS3.out.ext HX35.out)
    have HX5 := Lib.hid (HX3.out.trans HX35.out)
    clear ho5 hx5 HC HX4 HB3 HX3 HX35 HS3 hcap
    go_wp2_with fail
    go_loopw [5, 18] (fun ov it wr => ∃ i : Nat, i ≤ N ∧ it = .int .i64 i ∧ Hid (OwnL wr w5.heap.size ov (cutK l.gen.toNat dk p i)) ∧ Hid (Ext w5 wr)) (fun _ it _ => N - (intOf it).toNat)
    case atStart => exact ⟨0, Nat.zero_le _, rfl, Lib.hid OwnL.nil, Lib.hid (Ext.refl _)⟩
    case round =>
      obtain ⟨i, hi, rfl, HO, HX⟩ := hrel
      by_cases hlt : i < N
      · have hin : (i : Int) < (N : Int) := by omega
        obtain ⟨b5, o5, rfl, hb5, hc5⟩ := (HS5.out.ext HX.out).get i (by rw [List.length_range]; exact hlt)
        rw [List.getElem_range] at hc5
        have HPA := Lib.hid ((part_at HSP.out i).ext HX.out)
        have hpal := Lb.partAt_len p i
        obtain ⟨o', ho'⟩ : ∃ o', off + 28 * i = o' := ⟨_, rfl⟩
        obtain ⟨c', hc'⟩ : ∃ c', min 28 (m - 28 * i) = c' := ⟨_, rfl⟩
        have HPV : Hid (partV b off m i = .slice (some ⟨b, o', none⟩) c' c') := by show _ = _; unfold partV; rw [ho', hc']
        rw [HPV.out] at hc5 HPA
        have HNX := Lib.hid (cutK_next l.gen.toNat dk p i)
        have hB := HB5.out.ext HX.out
        have k1 := hB.cell 1 (v := .int .i64 dk) (by rw [HDK.out]; rfl)
        have k2 := hB.cell 2 (v := encU l.gen) rfl
        have hgl := hB.lt
        have HBODY : Hid (Lb.sectorL l.gen.toNat dk i (Lb.partsN p) (Lb.partAt p i) = Lb.sealL ([76#8] ++ Lb.numsL [l.gen.toNat, dk, i, N] ++ uv (Lb.partAt p i).length ++ Lb.partAt p i)) := by show _ = _; rw [HPN.out]; rfl
        rw [HBODY.out] at HNX
        generalize Lb.partAt p i = q at *
        clear ho' hc' hB
        go_wp2_with fail
        go_at_call 34
        have hnm : ∀ y, y ∈ [l.gen.toNat, dk, i, N] → y < 18446744073709551616 := by
          intro y hy
          simp only [List.mem_cons, List.not_mem_nil, or_false] at hy
          omega
        refine (numbers_any _ _ [76#8] [l.gen.toNat, dk, i, N] _ (by simp) (by simp) hnm ((SliceAt.lit (enc := encB) wr [76#8] _ (0, 0) _ rfl).ext (Ext.alloc _ _)) (slice_lit3 (enc := encM) (l := [l.gen.toNat, dk, i, N]) rfl)).mono ?_
        rintro e w6 ⟨v6, rfl, hs6, hx6⟩
        have hAl : ([76#8] ++ Lb.numsL [l.gen.toNat, dk, i, N]).length ≤ 41 := by
          have := numsL_len _ hnm
          simp only [List.length_append, List.length_cons, List.length_nil] at this ⊢
          omega
        generalize [76#8] ++ Lb.numsL [l.gen.toNat, dk, i, N] = A at *
        have HS6 := Lib.hid hs6
        have HX6 : Hid (Ext wr w6) := ((Ext.alloc _ _).trans (Ext.alloc _ _)).trans hx6
        have HPA6 := Lib.hid (HPA.out.ext HX6.out)
        have hul := (uv_len q.length (by omega)).2
        obtain ⟨body, hbody⟩ : ∃ body, A ++ uv q.length ++ q = body := ⟨_, rfl⟩
        have hbl : body.length ≤ 100 := by rw [← hbody, List.length_append, List.length_append]; omega
        have HBD := Lib.hid hbody
        rw [hbody] at HNX
        clear hs6 hx6 hnm k1 k2 hgl hbody hc5 hb5
        go_wp2_with fail
        go_at_call 36
        refine (appendBytes_any _ _ A q _ (by omega) (by omega) HS6.out HPA6.out).mono ?_
        rintro e w7 ⟨v7, rfl, ho7, hx7⟩
        rw [HBD.out] at ho7
        have HO7 := Lib.hid ho7
        have HX7 : Hid (Ext w6 w7) := hx7
        clear ho7 hx7
        go_wp2_with fail
        go_at_call 35
        refine (sealed_any _ body w6.heap.size _ (by omega) HX7.out.size HO7.out).mono ?_
        rintro e w8 ⟨v8, rfl, ho8, hx8⟩
        have hsl8 : (Lb.sealL body).length ≤ 108 := by rw [Lb.sealL_len]; omega
        generalize Lb.sealL body = sec at *
        obtain ⟨a8, c8, rfl⟩ := OwnG.shape (enc := encB) ho8
        have HX8 : Hid (Ext w5 w8) := HX.out.trans (HX6.out.trans (show Ext w6 w8 from Below.trans HX7.out hx8))
        have HO8 : Hid (OwnG encB 5 w8 w5.heap.size (.slice a8 sec.length c8) sec) := OwnG.lower (enc := encB) ho8 (HX.out.trans HX6.out).size
        have HOL8 := Lib.hid (HO.out.ext (HX6.out.trans (show Ext w6 w8 from Below.trans HX7.out hx8)))
        obtain ⟨sl, hsl⟩ : ∃ sl, sec.length = sl := ⟨_, rfl⟩
        rw [hsl] at HO8 ⊢
        clear ho8 hx8 hsl HO7 HX7 HS6 HPA6 HX6
        go_wp2_with (at_builtin; refine Classical.byContradiction (fun hN => ?_))
        refine hN ?_
        clear hN
        have e1 : Ext w8 (w8.alloc (.cells #[.slice a8 sl c8] 47)) := Ext.alloc _ _
        have hx1 := Ext.trans HX8.out e1
        have hown := HOL8.out.ext e1
        refine wpList_append_row rfl _ _ rfl w5.heap.size _ _ rfl hown (ad := a8) (n := sl) (c := c8) (l := sec) rfl (cell_new1 _ _ _) (HO8.out.ext e1) (by rw [cutK_len]; omega) hx1.size ?_
        intro v9 w9 ho9 hg9
        rw [← HNX.out] at ho9
        have HO9 := Lib.hid ho9
        have HX9 : Hid (Ext w5 w9) := Below.grown hx1 hg9 hx1.size (fun g hg => (hown.lt g hg).1)
        clear ho9 hg9 hown hx1 e1 HOL8 HO8 HX8
        go_wp2
        go_roundw
        case rel => exact ⟨i + 1, by omega, by go_num, HO9, HX9⟩
        case measure => simp [intOf]; omega
      · have hin : N = i := by omega
        subst hin
        have hin2 : ¬ ((N : Int) < (N : Int)) := by omega
        obtain ⟨ao, co, rfl⟩ := HO.out.shape
        go_wp2_with fail
        go_ret2
        exact ⟨_, by rw [HN.out]; rfl, by rw [HR.out]; exact HO.out.lower HX5.out.size, HX5.out.trans HX.out⟩
end Go.Proofs.YtjabgpejmnpamaaGreatDoor

namespace Go.Proofs.YtjabgpejmnpamaaGreatDoor
open Go.ChangeShapes Go.WideShapes Go.ChangeAt Go.RowKit
def Small (w : World) : Prop := 0 < w.heap.size ∧ w.cell? ⟨0, 0, none⟩ = some (.int .i64 60) ∧ w.cell? ⟨0, 1, none⟩ = some (.int .i64 5) ∧ w.cell? ⟨0, 2, none⟩ = some (.int .i64 2) ∧ w.cell? ⟨0, 3, none⟩ = some (.int .i64 3) ∧ w.cell? ⟨0, 4, none⟩ = some (.int .i64 1)
theorem smallG : Tryz.prog.globalNamed "tegula/tegulatop.small" = some 0 := by kernel_rfl
theorem smallT : (Tryz.prog.globals[0]?).map (·.type) = some 24 := by kernel_rfl
abbrev laidS : List (String × DataW Unit) := [("tegula/tegulatop.small", Rows.laid_tegula_tegulatop_small)]
theorem one_of {cs : List Value} {i : Nat} {v : Value} (h : (cs.drop i).take 1 = [v]) : cs[i]? = some v := by
  have : ((cs.drop i).take 1)[0]? = some v := by rw [h]; rfl
  rw [List.getElem?_take_of_lt (by decide), List.getElem?_drop] at this
  simpa using this
theorem small_of_laid {W : World} (h : laidMetH Tryz.prog laidS W) : Small W := by
  rw [MakeChecks.laidMetH_plain _ _ _ (by kernel_rfl)] at h
  obtain ⟨ps, ⟨g0, t0, cs0, f0, p0, q0, hg0, ht0, hv0, hd0, _, _⟩, _, _⟩ := h
  obtain rfl := Option.some.inj (smallG.symm.trans hg0)
  obtain rfl := Option.some.inj (smallT.symm.trans ht0)
  obtain ⟨xs, n, _, hx, hlen, hsz, hel⟩ := DataW.trod_struct Tryz.underlying24 hd0
  have c3 : Tryz.prog.cellsOf 3 = 1 := by kernel_rfl
  have hc := World.var?_cell smallG hv0
  match xs, hsz, hx, hel with
  | [x0, x1, x2, x3, x4], _, hx, hel =>
    have e0 : DataW.trod (fun _ => ()) Tryz.prog W 0 (fun _ => true) false n 3 ((cs0.toList.drop 0).take (Tryz.prog.cellsOf 3)) = some x0 := hel 0 _ rfl
    have e1 : DataW.trod (fun _ => ()) Tryz.prog W 0 (fun _ => true) false n 3 ((cs0.toList.drop 1).take (Tryz.prog.cellsOf 3)) = some x1 := hel 1 _ rfl
    have e2 : DataW.trod (fun _ => ()) Tryz.prog W 0 (fun _ => true) false n 3 ((cs0.toList.drop 2).take (Tryz.prog.cellsOf 3)) = some x2 := hel 2 _ rfl
    have e3 : DataW.trod (fun _ => ()) Tryz.prog W 0 (fun _ => true) false n 3 ((cs0.toList.drop 3).take (Tryz.prog.cellsOf 3)) = some x3 := hel 3 _ rfl
    have e4 : DataW.trod (fun _ => ()) Tryz.prog W 0 (fun _ => true) false n 3 ((cs0.toList.drop 4).take (Tryz.prog.cellsOf 3)) = some x4 := hel 4 _ rfl
    rw [c3] at e0 e1 e2 e3 e4
    obtain ⟨n0, k0, y0, _⟩ := DataW.trod_int Tryz.underlying3 e0
    obtain ⟨n1, k1, y1, _⟩ := DataW.trod_int Tryz.underlying3 e1
    obtain ⟨n2, k2, y2, _⟩ := DataW.trod_int Tryz.underlying3 e2
    obtain ⟨n3, k3, y3, _⟩ := DataW.trod_int Tryz.underlying3 e3
    obtain ⟨n4, k4, y4, _⟩ := DataW.trod_int Tryz.underlying3 e4
    subst y0 y1 y2 y3 y4
    simp [Rows.laid_tegula_tegulatop_small] at hx
    obtain ⟨⟨z0, z1, z2, z3, z4⟩, _⟩ := hx
    subst z0 z1 z2 z3 z4
    have d0 := (hc 0).trans ((Array.getElem?_toList).symm.trans (one_of k0))
    have d1 := (hc 1).trans ((Array.getElem?_toList).symm.trans (one_of k1))
    have d2 := (hc 2).trans ((Array.getElem?_toList).symm.trans (one_of k2))
    have d3 := (hc 3).trans ((Array.getElem?_toList).symm.trans (one_of k3))
    have d4 := (hc 4).trans ((Array.getElem?_toList).symm.trans (one_of k4))
    refine ⟨?_, d0, d1, d2, d3, d4⟩
    rcases Nat.lt_or_ge 0 W.heap.size with h' | h'
    · exact h'
    · simp [World.cell?, Array.getElem?_eq_none h'] at d0
theorem door_met (os : Os) (args : Array Value) : laidMetH Tryz.prog laidS ((World.doorLaid Tryz.prog 400 os).forCall (fun _ _ => 0) ⟨#[], args, []⟩).memory :=
  laidMetH_of_parts3 (fuel := 8) (laidMet_of_run' 8 (by kernel_rfl) (by kernel_rfl)) (by kernel_rfl) (by kernel_rfl)
theorem law_lift_laid {C : Checked} {os : Os} {f : FuncId} {fn : Func} {s : ChangeSpec} {H : Type} {enc : TypeId × Value → H} {tb : TypeId} {L : List (String × DataW Unit)}
    (own : ownKnob C.prog.godebug = none) (started : os.Started) (noInit : C.prog.inits.idxOf? f = none) (hfn : C.prog.funcs[f]? = some fn)
    (hvars : s.vars = []) (hspec : ∀ ds : List (DataW H), ds.length = fn.params.toList.length → s.fn H (ds ++ []) = { results := [.lit (.bool true)], args := ds })
    (hl : laidOutB C.prog = true) (hp : ∀ t ∈ fn.params.toList, C.prog.readableRec t = true ∧ t < C.prog.types.size) (hres : fn.resultTypes = #[tb]) (hub : C.prog.underlying tb = some .bool)
    (witness : ∃ (w : World) (tape : Tape) (i : Input), w.os = os ∧ (w.forCall tape i).Shaped C.prog ∧ i.vars = [] ∧ Input.okWide C.prog (w.forCall tape i) .any w.heap.size f i ∧
      ((s.pre enc C.prog fn [] false (w.forCall tape i).memory i.args ∧ laidMetH C.prog L (w.forCall tape i).memory) ∧ sizedMet enc C.prog fn (OpenSpec.ofChange s) false (w.forCall tape i).memory i.args) ∧ ({} : Assume).holds C.prog (lone (Frame.enter C.prog f i.args .normal) [] (w.forCall tape i)))
    (contract : ∀ (W : World) (base : Nat) (args : Array Value) (ds : List (DataW H)) (p : List MemPlace), laidMetH C.prog L W →
      (∀ (j : Nat) t v, fn.params[j]? = some t → args[j]? = some v → Value.okWide C.prog W .any base t v) →
      DataW.TrodAll enc C.prog W 0 (fun _ => true) true fn.params.toList args.toList ds p →
      (∀ x ∈ p, x.block < W.heap.size) →
      (DataW.weightsEach C.prog (fn.params.toList ++ []) (ds ++ [])).all (· ≤ reachBytes) = true →
      Calls C.prog f args W fun e W' => e = .returned (.bool true) ∧ Below W.heap.size W W') :
    ReturnsInHanded {} C os f .any (fun w args => (s.pre enc C.prog fn [] false w args ∧ laidMetH C.prog L w) ∧ sizedMet enc C.prog fn (OpenSpec.ofChange s) false w args) (s.post enc C.prog fn false true false false) := by
  refine returnsInHanded_of_change_and (X := fun w _ => laidMetH C.prog L w) (fun _ _ _ hh h => laidMetH.of_heap hh h) own started noInit hfn witness ?_
  intro W base args ds gs before hval hW _ hsz hL _
  have hW' := hW
  have hlt := hW'.lt
  obtain ⟨p, q, hA, hV, rfl, _, _⟩ := hW
  have hvt : s.plain.varTypes C.prog = [] := by
    unfold ChangeSpec.plain DataSpec.varTypes; rw [hvars]; rfl
  rw [hvars] at hV
  obtain ⟨rfl, rfl⟩ := trodVars_none hV
  rw [hvt] at hsz
  refine (contract W base args ds p hL hval hA (fun x hx => hlt x (by simp [hx])) hsz).mono fun e W' ⟨he, hb⟩ => ?_
  have hds := trodAll_len hA
  refine ⟨_, he, ds, [], p ++ [], [], p, [], hW', ?_, ?_, ?_, hb.frame _, fun h => by cases h⟩
  · rw [hspec ds hds, hres]; exact trodAll_mk1 (shut_bool hub true)
  · rw [hspec ds hds]; exact trodAll_below hl hb hp hA (fun x hx => hlt x (by simp [hx]))
  · rw [hspec ds hds, hvars]; rfl
end Go.Proofs.YtjabgpejmnpamaaGreatDoor

namespace Go.Proofs.YtjabgpejmnpamaaGreatDoor
open Go.RowKit Go.Shelf
set_option maxRecDepth 100000
theorem Small.ext {w w' : World} (h : Small w) (e : Ext w w') : Small w' := by
  obtain ⟨h0, h1, h2, h3, h4, h5⟩ := h
  exact ⟨Nat.lt_of_lt_of_le h0 e.size, (e.cell _ _ h0).trans h1, (e.cell _ _ h0).trans h2, (e.cell _ _ h0).trans h3, (e.cell _ _ h0).trans h4, (e.cell _ _ h0).trans h5⟩
theorem own_entries {w : World} {B : Nat} {ve : Value} (h : OwnN w B ve 4) : ∃ q ce, ve = .slice (some ⟨q, 0, none⟩) 4 ce ∧ B ≤ q ∧ Ent w q := by
  rcases h.2 with ⟨_, h2⟩ | ⟨q, cap, cur, h1, h2, h3, _, _, _, h7⟩
  · exact absurd h2 (by decide)
  · exact ⟨q, cap, h1, h2, cur, h3, h7⟩
theorem eq_nine (w : World) : (Op.equalIn 10000 76 (.agg b8C) (.agg b8C)).run Tryz.prog w = .ok true w := by
  have h := run_equalIn_block (P := Tryz.prog) w 9998 Tryz.underlying76 Tryz.underlying5 size8u [9#8, 0#8, 0#8, 0#8, 0#8, 0#8, 0#8, 0#8] [9#8, 0#8, 0#8, 0#8, 0#8, 0#8, 0#8, 0#8] rfl rfl
  rw [eqB_self] at h
  exact h
def l31 : Lab := ⟨0#64, 0, 1#64, 0#64, ⟨5, 4, 1, 0, 60, 4, 2, 3, 1, 10, 20⟩, 0, 0#64, 0#64⟩
def x31 : List Bool := [false, false, false, false, false]
theorem enc31 : encN' l31 x31 = 0 ∧ (encR l31 x31).length = 1 := by decide +kernel
theorem run_make_b5 (w : World) : (Instr.makeSlice 27 (.int .i64 5) (.int .i64 5)).run Tryz.prog w = .ok (.slice (some ⟨w.heap.size, 0, none⟩) 5 5) (w.alloc (.cells (madeCells #[.bool false] 5) 4)) := by
  obtain ⟨i0, hi, hz0, hz1, hz2⟩ := info_parts (show (Tryz.prog.info? 4).map (fun i => (i.zero, i.size, i.bytes)) = some (some (.bool false), 1, 1) by kernel_rfl)
  have h := run_make (P := Tryz.prog) w 27 4 i0 _ Tryz.underlying27 hi hz0 .i64 .i64 5 5 (by decide) (by decide) (by rw [hz2]; decide) (by decide)
  rw [hz1] at h
  exact h
theorem made_b5 : madeCells #[.bool false] 5 = #[.bool false, .bool false, .bool false, .bool false, .bool false] := by
  refine Array.ext (by simp [madeCells]) (fun i h1 h2 => ?_)
  simp at h2
  match i, h2 with
  | 0, _ => simp [madeCells]
  | 1, _ => simp [madeCells]
  | 2, _ => simp [madeCells]
  | 3, _ => simp [madeCells]
  | 4, _ => simp [madeCells]
set_option maxHeartbeats 8000000 in
theorem awake31_any (w : World) (hs : Small w) : Calls Tryz.prog 5 #[] w fun e w' => e = .returned (.bool true) ∧ Ext w w' := by
  have hmk := run_make_b5
  simp only [made_b5] at hmk
  obtain ⟨hen0, hen1⟩ := enc31
  have HE0 := Lib.hid hen0
  have HE1 := Lib.hid hen1
  clear hen0 hen1
  have hEq := eq_nine
  have HS := Lib.hid hs
  clear hs
  go_enter Tryz.func5, Tryz.ntmps5
  go_wp2_with first | (go_at_call 22; refine (awake25_any _).mono ?_; rintro e W1 ⟨rfl, hx1⟩; have HX1 := Lib.hid hx1; clear hx1) | (go_at_call 23; refine (newPower_any _).mono ?_; rintro e W2 ⟨rfl, hw2⟩; have HX2 : Hid (Ext w W2) := Lib.hid (by rw [hw2]; exact HX1.out.trans (Ext.alloc _ _)); have HP2 : Hid (BoxAt W2 W1.heap.size (pwC 0) 124) := Lib.hid (by rw [hw2]; exact BoxAt.new _ _ _); obtain ⟨hs0, hs1, hs2, hs3, hs4, hs5⟩ := HS.out.ext HX2.out; clear hw2) | (go_at_call 24; go_loud (refine (dnew_any w.heap.size W1.heap.size _ HP2.out HX1.out.size).mono ?_); rintro e W3 ⟨D, n, rfl, hph, hx3⟩; have HPH := Lib.hid hph; have HX3 := Lib.hid (HX2.out.trans hx3); clear hph hx3 hs0 hs1 hs2 hs3 hs4 hs5) | (go_at_call 25; go_loud (refine (dvnew_any w.heap.size D W1.heap.size n _ HPH.out HX3.out.size).mono ?_); rintro e W4 ⟨R, ve, g, rfl, hr, ho, hb, hp4, hR, hc4⟩; obtain ⟨q, ce, rfl, hq, hen⟩ := own_entries ho; have HR4 := Lib.hid hr; have HE4 := Lib.hid hen; have HB4 := Lib.hid hb; have HP4 := Lib.hid hp4; have HC4 := Lib.hid hc4; have HGR := Lib.hid hR; have HGQ := Lib.hid hq; clear hr ho hb hp4 hc4 hen hR hq) | (go_at_call 26; go_loud (refine (vwrite_any w.heap.size R D W1.heap.size q ce g 5 n _ HR4.out HE4.out HB4.out HP4.out (Nat.le_trans HX3.out.size HC4.out.size) (Nat.le_trans HX3.out.size HGR.out) (Nat.le_trans HX3.out.size HGQ.out)).mono ?_); rintro e W5 ⟨rfl, hwp⟩; have HWp := Lib.hid hwp; obtain ⟨g', c', hr5⟩ := hwp.box; have HR5 := Lib.hid hr5; clear hwp hr5) | (go_at_call 27; go_loud (refine (vread_any w.heap.size R D W1.heap.size q ce g' c' n _ HR5.out HWp.out.ent HWp.out.dsk (Nat.le_trans HX3.out.size (Nat.le_trans HC4.out.size HWp.out.chg.size))).mono ?_); rintro e W6 ⟨rfl, hc6⟩; have HX6 := Lib.hid (show Ext w W6 from HX3.out.below.trans (((HC4.out.wide (by decide)).trans (HWp.out.chg.trans (hc6.wide (by decide))) : Chg w.heap.size (144 :: 154 :: TTd) W3 W6).bel)); clear hc6) | (refine wpList_store_box 76 _ _ rfl (by rfl) rfl rfl (BoxAt.new W6 z8C 76) rfl (by kernel_rfl) (by simp [Value.oneCell']) ?_; intro W7 hS; have HX7 := Lib.hid (show Ext w W7 from hS.bel (HX6.out.trans (Ext.alloc _ _)) HX6.out.size); have HB7 := Lib.hid hS.box; have HSl := Lib.hid (SliceAt.lit (enc := Value.bool) W7 x31 4 (0, 0) #[.bool false, .bool false, .bool false, .bool false, .bool false] rfl); clear hS) | (go_at_call 7; go_loud (refine (encode_any l31 (.slice (some ⟨W7.heap.size, 0, none⟩) 5 5) x31 _ (by decide) HSl.out).mono ?_); rintro e W8 ⟨v8, rfl, ho8, hx8⟩; rw [HE0.out]; obtain ⟨va8, vc8, rfl⟩ := ho8.shape; rw [HE1.out]; have HX8 := Lib.hid ((HX7.out.trans (Ext.alloc _ _)).trans hx8); have hb8 := (HB7.out.ext (Ext.alloc _ _)).ext hx8; have y0 := hb8.cell 0 (v := .int .u8 9) rfl; have y1 := hb8.cell 1 (v := .int .u8 0) rfl; have y2 := hb8.cell 2 (v := .int .u8 0) rfl; have y3 := hb8.cell 3 (v := .int .u8 0) rfl; have y4 := hb8.cell 4 (v := .int .u8 0) rfl; have y5 := hb8.cell 5 (v := .int .u8 0) rfl; have y6 := hb8.cell 6 (v := .int .u8 0) rfl; have y7 := hb8.cell 7 (v := .int .u8 0) rfl; have my := hb8.lt; clear ho8 hx8 hb8)
  go_ret
  exact ⟨rfl, HX8.out⟩
end Go.Proofs.YtjabgpejmnpamaaGreatDoor

namespace Go.Proofs.YtjabgpejmnpamaaGreatDoor.El
def bestTo (cand : Nat → Bool) (key : Nat → Nat) : Nat → Option Nat
  | 0 => none
  | k + 1 => match bestTo cand key k with
    | none => if cand k then some k else none
    | some b => if cand k && decide (key b < key k) then some k else some b
structure IsBest (cand : Nat → Bool) (key : Nat → Nat) (n m : Nat) : Prop where
  lt : m < n
  ok : cand m = true
  top : ∀ j, j < n → cand j = true → key j ≤ key m
  first : ∀ j, j < m → cand j = true → key j < key m
theorem bestTo_none {cand : Nat → Bool} {key : Nat → Nat} {n : Nat} (h : bestTo cand key n = none) : ∀ j, j < n → cand j = false := by
  induction n with
  | zero => intro j hj; omega
  | succ k ih =>
    rw [bestTo] at h
    cases hb : bestTo cand key k with
    | none =>
      rw [hb] at h
      simp only at h
      intro j hj
      by_cases e : j = k
      · subst e; cases hc : cand j <;> simp [hc] at h ⊢
      · exact ih hb j (by omega)
    | some b => rw [hb] at h; simp only at h; split at h <;> cases h
theorem bestTo_some {cand : Nat → Bool} {key : Nat → Nat} {n m : Nat} (h : bestTo cand key n = some m) : IsBest cand key n m := by
  induction n generalizing m with
  | zero => cases h
  | succ k ih =>
    rw [bestTo] at h
    cases hb : bestTo cand key k with
    | none =>
      rw [hb] at h
      have hn := bestTo_none hb
      simp only at h
      split at h
      · rename_i hc
        obtain rfl := Option.some.inj h
        refine ⟨by omega, hc, fun j hj hcj => ?_, fun j hj hcj => by rw [hn j (by omega)] at hcj; cases hcj⟩
        by_cases e : j = k
        · rw [e]; exact Nat.le_refl _
        · rw [hn j (by omega)] at hcj; cases hcj
      · cases h
    | some b =>
      rw [hb] at h
      have hi := ih hb
      simp only at h
      split at h
      · rename_i hc
        rw [Bool.and_eq_true, decide_eq_true_eq] at hc
        obtain rfl := Option.some.inj h
        refine ⟨by omega, hc.1, fun j hj hcj => ?_, fun j hj hcj => Nat.lt_of_le_of_lt (hi.top j (by omega) hcj) hc.2⟩
        by_cases e : j = k
        · rw [e]; exact Nat.le_refl _
        · exact Nat.le_trans (hi.top j (by omega) hcj) (by omega)
      · rename_i hc
        obtain rfl := Option.some.inj h
        refine ⟨by have := hi.lt; omega, hi.ok, fun j hj hcj => ?_, hi.first⟩
        by_cases e : j = k
        · subst e
          rw [hcj, Bool.true_and, decide_eq_true_eq] at hc
          omega
        · exact hi.top j (by omega) hcj
theorem IsBest.eq {cand : Nat → Bool} {key : Nat → Nat} {n m k : Nat} (h : IsBest cand key n m) (g : IsBest cand key n k) : m = k := by
  rcases Nat.lt_trichotomy m k with e | e | e
  · have := g.first m e h.ok
    have := h.top k g.lt g.ok
    omega
  · exact e
  · have := h.first k e g.ok
    have := g.top m h.lt h.ok
    omega
theorem bestTo_iff {cand : Nat → Bool} {key : Nat → Nat} {n m : Nat} (h : IsBest cand key n m) : bestTo cand key n = some m := by
  cases hb : bestTo cand key n with
  | none => have := bestTo_none hb m h.lt; rw [h.ok] at this; cases this
  | some k => rw [(bestTo_some hb).eq h]
section groups
variable (eq : Nat → Nat → Bool)
def addG (gs : List (List Nat)) (i : Nat) : List (List Nat) :=
  match gs.findIdx? (fun g => eq (g.headD 0) i) with
  | some k => gs.set k (gs.getD k [] ++ [i])
  | none => gs ++ [[i]]
def groupsOf (new : Nat → Bool) (cs : List Nat) : List (List Nat) := cs.foldl (fun gs i => if new i then addG eq gs i else gs) []
structure Groups (C : List Nat) (gs : List (List Nat)) : Prop where
  ne : ∀ g, g ∈ gs → g ≠ []
  form : ∀ g, g ∈ gs → g = C.filter (fun j => eq (g.headD 0) j)
  cover : ∀ i, i ∈ C → ∃ g, g ∈ gs ∧ eq (g.headD 0) i = true
  heads : gs.Pairwise fun a b => a.headD 0 < b.headD 0 ∧ eq (a.headD 0) (b.headD 0) = false
end groups
theorem headD_append {l : List Nat} (h : l ≠ []) (i : Nat) : (l ++ [i]).headD 0 = l.headD 0 := by
  cases l with
  | nil => exact absurd rfl h
  | cons a t => rfl
theorem headD_mem {l : List Nat} (h : l ≠ []) : l.headD 0 ∈ l := by
  cases l with
  | nil => exact absurd rfl h
  | cons a t => simp
theorem Groups.add {eq : Nat → Nat → Bool} (hr : ∀ i, eq i i = true) (hs : ∀ i j, eq i j = true → eq j i = true) (ht : ∀ i j k, eq i j = true → eq j k = true → eq i k = true)
    {C : List Nat} {gs : List (List Nat)} (h : Groups eq C gs) (i : Nat) (hi : ∀ j, j ∈ C → j < i) : Groups eq (C ++ [i]) (addG eq gs i) := by
  unfold addG
  have hsub : ∀ g, g ∈ gs → g.headD 0 ∈ C := fun g hg => by
    have := headD_mem (h.ne g hg)
    rw [h.form g hg, List.mem_filter] at this
    rw [← h.form g hg] at this
    exact this.1
  cases hf : gs.findIdx? (fun g => eq (g.headD 0) i) with
  | none =>
    simp only
    rw [List.findIdx?_eq_none_iff] at hf
    refine ⟨?_, ?_, ?_, ?_⟩
    · intro g hg
      rw [List.mem_append, List.mem_singleton] at hg
      rcases hg with hg | rfl
      · exact h.ne g hg
      · simp
    · intro g hg
      rw [List.mem_append, List.mem_singleton] at hg
      rcases hg with hg | rfl
      · rw [List.filter_append, ← h.form g hg]
        simp only [List.filter_cons, List.filter_nil, hf g hg, Bool.false_eq_true, if_false, List.append_nil]
      · rw [List.filter_append]
        have : C.filter (fun j => eq i j) = [] := by
          rw [List.filter_eq_nil_iff]
          intro j hj hij
          obtain ⟨g, hg, hgj⟩ := h.cover j hj
          have := hf g hg
          rw [ht _ _ _ hgj (hs _ _ hij)] at this
          cases this
        simp [this, hr]
    · intro j hj
      rw [List.mem_append, List.mem_singleton] at hj
      rcases hj with hj | rfl
      · obtain ⟨g, hg, hgj⟩ := h.cover j hj
        exact ⟨g, List.mem_append.2 (.inl hg), hgj⟩
      · exact ⟨[j], by simp, hr j⟩
    · rw [List.pairwise_append]
      refine ⟨h.heads, by simp, fun a ha b hb => ?_⟩
      rw [List.mem_singleton] at hb
      subst hb
      exact ⟨hi _ (hsub a ha), hf a ha⟩
  | some k =>
    simp only
    rw [List.findIdx?_eq_some_iff_getElem] at hf
    obtain ⟨hk, hke, hkf⟩ := hf
    have hgk : gs.getD k [] = gs[k] := by rw [List.getD_eq_getElem?_getD, List.getElem?_eq_getElem hk]; rfl
    rw [hgk]
    have hnk := h.ne _ (List.getElem_mem hk)
    have hne : ∀ (a : Nat) (ha : a < gs.length), a ≠ k → eq (gs[a].headD 0) i = false := by
      intro a ha hak
      cases hc : eq (gs[a].headD 0) i with
      | false => rfl
      | true =>
        exfalso
        have hp := List.pairwise_iff_getElem.1 h.heads
        have := ht _ _ _ hc (hs _ _ hke)
        rcases Nat.lt_or_gt_of_ne hak with e | e
        · have h2 := (hp a k ha hk e).2; rw [h2] at this; cases this
        · have h2 := (hp k a hk ha e).2; rw [hs _ _ this] at h2; cases h2
    have key : ∀ (a : Nat) (ha : a < (gs.set k (gs[k] ++ [i])).length), ∃ (ha' : a < gs.length), ((gs.set k (gs[k] ++ [i]))[a]'ha).headD 0 = gs[a].headD 0 ∧ (gs.set k (gs[k] ++ [i]))[a]'ha = if a = k then gs[k] ++ [i] else gs[a] := by
      intro a ha
      have ha' : a < gs.length := by simpa using ha
      refine ⟨ha', ?_, ?_⟩
      · rw [List.getElem_set]
        by_cases e : k = a
        · subst e; rw [if_pos rfl, headD_append hnk]
        · rw [if_neg e]
      · rw [List.getElem_set]
        by_cases e : k = a
        · rw [if_pos e, if_pos e.symm]
        · rw [if_neg e, if_neg (Ne.symm e)]
    refine ⟨?_, ?_, ?_, ?_⟩
    · intro g hg
      obtain ⟨a, ha, rfl⟩ := List.getElem_of_mem hg
      obtain ⟨ha', h1, h2⟩ := key a ha
      rw [h2]
      split
      · simp
      · exact h.ne _ (List.getElem_mem ha')
    · intro g hg
      obtain ⟨a, ha, rfl⟩ := List.getElem_of_mem hg
      obtain ⟨ha', h1, h2⟩ := key a ha
      rw [h1, h2, List.filter_append]
      by_cases e : a = k
      · subst e
        rw [if_pos rfl, ← h.form _ (List.getElem_mem ha')]
        simp only [List.filter_cons, List.filter_nil, hke, if_true]
      · rw [if_neg e, ← h.form _ (List.getElem_mem ha')]
        simp only [List.filter_cons, List.filter_nil, hne a ha' e, Bool.false_eq_true, if_false, List.append_nil]
    · intro j hj
      rw [List.mem_append, List.mem_singleton] at hj
      rcases hj with hj | rfl
      · obtain ⟨g, hg, hgj⟩ := h.cover j hj
        obtain ⟨a, ha, rfl⟩ := List.getElem_of_mem hg
        obtain ⟨_, h1, _⟩ := key a (by simpa using ha)
        exact ⟨_, List.getElem_mem (by simpa using ha), by rw [h1]; exact hgj⟩
      · obtain ⟨_, h1, _⟩ := key k (by simpa using hk)
        exact ⟨_, List.getElem_mem (by simpa using hk), by rw [h1]; exact hke⟩
    · rw [List.pairwise_iff_getElem]
      intro a b ha hb hab
      obtain ⟨ha', h1, _⟩ := key a ha
      obtain ⟨hb', h2, _⟩ := key b hb
      rw [h1, h2]
      exact List.pairwise_iff_getElem.1 h.heads a b ha' hb' hab
theorem groups_of {eq : Nat → Nat → Bool} (hr : ∀ i, eq i i = true) (hs : ∀ i j, eq i j = true → eq j i = true) (ht : ∀ i j k, eq i j = true → eq j k = true → eq i k = true)
    (new : Nat → Bool) (cs : List Nat) (hp : cs.Pairwise (· < ·)) : Groups eq (cs.filter new) (groupsOf eq new cs) := by
  have key : ∀ (m : Nat), m ≤ cs.length → Groups eq ((cs.take m).filter new) (groupsOf eq new (cs.take m)) := by
    intro m
    induction m with
    | zero => intro _; exact ⟨by simp [groupsOf], by simp [groupsOf], by simp, by simp [groupsOf]⟩
    | succ m ih =>
      intro hm
      have h := ih (by omega)
      have hlt : m < cs.length := by omega
      rw [List.take_succ_eq_append_getElem hlt]
      unfold groupsOf at h ⊢
      rw [List.foldl_append, List.filter_append]
      simp only [List.foldl_cons, List.foldl_nil]
      by_cases hn : new cs[m] = true
      · rw [if_pos hn]
        have := h.add hr hs ht cs[m] (fun j hj => by
          rw [List.mem_filter] at hj
          obtain ⟨a, ha, rfl⟩ := List.getElem_of_mem hj.1
          rw [List.length_take] at ha
          rw [List.getElem_take]
          exact List.pairwise_iff_getElem.1 hp a m (by omega) hlt (by omega))
        simpa [hn] using this
      · rw [if_neg hn]
        simpa [hn] using h
  have := key cs.length (Nat.le_refl _)
  rwa [List.take_length] at this
section choose
variable (disk : Nat → Nat) (dead : Nat → List Bool)
def lowG : List Nat → Nat
  | [] => 0
  | i :: t => t.foldl (fun m j => min m (disk j)) (disk i)
def outG (all : List (List Nat)) (s : List Nat) : Bool := all.all fun o => o.headD 0 == s.headD 0 || o.all fun i => (dead (s.headD 0)).getD (disk i) false
def amongG (all : List (List Nat)) : List (List Nat) := if all.filter (outG disk dead all) = [] then all else all.filter (outG disk dead all)
def betterG (s b : List Nat) : Bool := decide (b.length < s.length) || (s.length == b.length && decide (lowG disk s < lowG disk b))
def pickG : List (List Nat) → List Nat
  | [] => []
  | b :: t => t.foldl (fun b s => if betterG disk s b then s else b) b
def chooseF (all : List (List Nat)) : Nat := (pickG disk (amongG disk dead all)).headD 0
end choose
theorem betterG_iff {disk : Nat → Nat} {s b : List Nat} (hs : lowG disk s ≤ 60) (hb : lowG disk b ≤ 60) :
    betterG disk s b = true ↔ b.length * 1000 + (60 - lowG disk b) < s.length * 1000 + (60 - lowG disk s) := by
  unfold betterG
  simp only [Bool.or_eq_true, Bool.and_eq_true, decide_eq_true_eq, beq_iff_eq]
  omega
def FirstTop (k : List Nat → Nat) (L : List (List Nat)) (r : List Nat) : Prop := ∃ A B, L = A ++ r :: B ∧ (∀ a, a ∈ A → k a < k r) ∧ ∀ b, b ∈ B → k b ≤ k r
theorem pick_fold {k : List Nat → Nat} {bet : List Nat → List Nat → Bool} {ok : List Nat → Prop} (hbet : ∀ s b, ok s → ok b → (bet s b = true ↔ k b < k s)) : ∀ (t : List (List Nat)) (b : List Nat), ok b → (∀ s, s ∈ t → ok s) →
    FirstTop k (b :: t) (t.foldl (fun b s => if bet s b then s else b) b)
  | [], b, _, _ => ⟨[], [], rfl, by simp, by simp⟩
  | s :: t, b, hb, ht => by
    rw [List.foldl_cons]
    have hs := ht s (by simp)
    by_cases h : bet s b = true
    · rw [if_pos h]
      rw [hbet _ _ hs hb] at h
      have ih := pick_fold hbet t s hs fun x hx => ht x (by simp [hx])
      generalize t.foldl (fun b s => if bet s b then s else b) s = r at *
      obtain ⟨A, B, h1, h2, h3⟩ := ih
      refine ⟨b :: A, B, by rw [h1]; rfl, fun a ha => ?_, h3⟩
      rcases List.mem_cons.1 ha with e | ha
      · rw [e]
        cases A with
        | nil => injection h1 with h4 h5; rw [← h4]; exact h
        | cons a' A' =>
          injection h1 with h4 h5
          have := h2 a' (by simp)
          rw [← h4] at this
          exact Nat.lt_trans h this
      · exact h2 a ha
    · rw [if_neg h]
      rw [hbet _ _ hs hb] at h
      have ih := pick_fold hbet t b hb fun x hx => ht x (by simp [hx])
      generalize t.foldl (fun b s => if bet s b then s else b) b = r at *
      obtain ⟨A, B, h1, h2, h3⟩ := ih
      cases A with
      | nil =>
        injection h1 with h4 h5
        refine ⟨[], s :: t, by rw [← h4]; rfl, by simp, fun x hx => ?_⟩
        rcases List.mem_cons.1 hx with e | hx
        · rw [e, ← h4]; exact Nat.le_of_not_lt h
        · rw [h5] at hx; exact h3 x hx
      | cons a' A' =>
        injection h1 with h4 h5
        have hb' := h2 a' (by simp)
        rw [← h4] at hb'
        refine ⟨b :: s :: A', B, by rw [h5]; rfl, fun a ha => ?_, h3⟩
        rcases List.mem_cons.1 ha with e | ha
        · rw [e]; exact hb'
        · rcases List.mem_cons.1 ha with e | ha
          · rw [e]; exact Nat.lt_of_le_of_lt (Nat.le_of_not_lt h) hb'
          · exact h2 a (by simp [ha])
def gkey (disk : Nat → Nat) (g : List Nat) : Nat := g.length * 1000 + (60 - lowG disk g)
theorem pick_top {disk : Nat → Nat} {L : List (List Nat)} (hL : L ≠ []) (hl : ∀ s, s ∈ L → lowG disk s ≤ 60) : FirstTop (gkey disk) L (pickG disk L) := by
  cases L with
  | nil => exact absurd rfl hL
  | cons b t =>
    have hbet : ∀ s b, lowG disk s ≤ 60 → lowG disk b ≤ 60 → (betterG disk s b = true ↔ gkey disk b < gkey disk s) := fun s b hs hb => by
      unfold gkey; exact betterG_iff hs hb
    have := pick_fold (k := gkey disk) (bet := betterG disk) (ok := fun s => lowG disk s ≤ 60) hbet t b (hl b (by simp)) fun s hs => hl s (by simp [hs])
    exact this
theorem fold_low {disk : Nat → Nat} (p : Nat → Bool) : ∀ (l : List Nat) (a : Nat), l.foldl (fun m j => if p j && decide (disk j < m) then disk j else m) a = (l.filter p).foldl (fun m j => min m (disk j)) a
  | [], a => rfl
  | i :: t, a => by
    rw [List.foldl_cons, List.filter_cons]
    by_cases h : p i = true
    · rw [if_pos h, List.foldl_cons, fold_low p t]
      congr 1
      rw [h, Bool.true_and]
      by_cases h2 : disk i < a
      · rw [if_pos (decide_eq_true h2)]; omega
      · rw [if_neg (by simpa using h2)]; omega
    · rw [if_neg h, fold_low p t]
      congr 1
      have : p i = false := by simpa using h
      rw [this]
      simp
theorem low_of {disk : Nat → Nat} {g : List Nat} (h : g ≠ []) (hd : ∀ i, i ∈ g → disk i ≤ 60) : g.foldl (fun m j => min m (disk j)) 60 = lowG disk g := by
  cases g with
  | nil => exact absurd rfl h
  | cons i t =>
    rw [List.foldl_cons, lowG]
    congr 1
    have := hd i (by simp)
    omega
theorem fold_min_le {disk : Nat → Nat} : ∀ (l : List Nat) (a : Nat), l.foldl (fun m j => min m (disk j)) a ≤ a
  | [], a => Nat.le_refl a
  | i :: t, a => by rw [List.foldl_cons]; exact Nat.le_trans (fold_min_le t _) (by omega)
section keys
variable (n : Nat) (cand : Nat → Bool) (gen : Nat → Nat) (eq : Nat → Nat → Bool) (disk : Nat → Nat) (dead : Nat → List Bool)
def outN (i : Nat) : Bool := (List.range n).all fun j => !(cand j && (gen j == gen i && !eq j i)) || (dead i).getD (disk j) false
def votesN (i : Nat) : Nat := ((List.range n).filter fun j => cand j && eq j i).length
def lowN (i : Nat) : Nat := (List.range n).foldl (fun m j => if (cand j && eq j i) && decide (disk j < m) then disk j else m) 60
def keyN (i : Nat) : Nat := ((gen i * 2 + if outN n cand gen eq disk dead i then 1 else 0) * 1000 + votesN n cand eq i) * 1000 + (60 - lowN n cand eq disk i)
end keys
structure Labels (n : Nat) (cand : Nat → Bool) (gen : Nat → Nat) (eq : Nat → Nat → Bool) (disk : Nat → Nat) (dead : Nat → List Bool) : Prop where
  r : ∀ i, eq i i = true
  s : ∀ i j, eq i j = true → eq j i = true
  t : ∀ i j k, eq i j = true → eq j k = true → eq i k = true
  g : ∀ i j, eq i j = true → gen i = gen j
  d : ∀ i j, eq i j = true → dead i = dead j
  k : ∀ i, i < n → cand i = true → disk i < 60
  n : n < 1000
section law
variable {n : Nat} {cand : Nat → Bool} {gen : Nat → Nat} {eq : Nat → Nat → Bool} {disk : Nat → Nat} {dead : Nat → List Bool}
theorem Labels.eqs (L : Labels n cand gen eq disk dead) {i j : Nat} (h : eq i j = true) (x : Nat) : eq x i = eq x j := by
  rw [Bool.eq_iff_iff]
  exact ⟨fun e => L.t _ _ _ e h, fun e => L.t _ _ _ e (L.s _ _ h)⟩
theorem Labels.key_eq (L : Labels n cand gen eq disk dead) {i j : Nat} (h : eq i j = true) : keyN n cand gen eq disk dead i = keyN n cand gen eq disk dead j := by
  have h1 : votesN n cand eq i = votesN n cand eq j := by unfold votesN; congr 2; funext x; rw [L.eqs h]
  have h2 : lowN n cand eq disk i = lowN n cand eq disk j := by unfold lowN; congr 1; funext m x; rw [L.eqs h]
  have h3 : outN n cand gen eq disk dead i = outN n cand gen eq disk dead j := by unfold outN; congr 1; funext x; rw [L.eqs h, L.g _ _ h, L.d _ _ h]
  unfold keyN
  rw [h1, h2, h3, L.g _ _ h]
theorem votes_le (i : Nat) : votesN n cand eq i ≤ n := by
  unfold votesN
  exact Nat.le_trans (List.length_filter_le _ _) (by rw [List.length_range]; exact Nat.le_refl n)
theorem low_le (i : Nat) : lowN n cand eq disk i ≤ 60 := by
  unfold lowN; rw [fold_low]; exact fold_min_le _ _
theorem key_gen (L : Labels n cand gen eq disk dead) {i j : Nat} (h : gen i < gen j) : keyN n cand gen eq disk dead i < keyN n cand gen eq disk dead j := by
  have h1 := votes_le (n := n) (cand := cand) (eq := eq) i
  have h2 := L.n
  have h3 := low_le (n := n) (cand := cand) (eq := eq) (disk := disk) i
  unfold keyN
  split <;> split <;> omega
def newC (n : Nat) (cand : Nat → Bool) (gen : Nat → Nat) (top : Nat) : List Nat := ((List.range n).filter cand).filter fun i => gen i == top
theorem mem_newC {top i : Nat} : i ∈ newC n cand gen top ↔ i < n ∧ cand i = true ∧ gen i = top := by
  unfold newC
  rw [List.mem_filter, List.mem_filter, List.mem_range, beq_iff_eq]
  exact ⟨fun h => ⟨h.1.1, h.1.2, h.2⟩, fun h => ⟨⟨h.1, h.2.1⟩, h.2.2⟩⟩
theorem group_mem (L : Labels n cand gen eq disk dead) {top : Nat} {gs : List (List Nat)} (G : Groups eq (newC n cand gen top) gs) {g : List Nat} (hg : g ∈ gs) {i : Nat} :
    i ∈ g ↔ i < n ∧ cand i = true ∧ gen i = top ∧ eq (g.headD 0) i = true := by
  have : i ∈ g ↔ i ∈ (newC n cand gen top).filter (fun j => eq (g.headD 0) j) := by rw [← G.form g hg]
  rw [this, List.mem_filter, mem_newC]
  exact ⟨fun h => ⟨h.1.1, h.1.2.1, h.1.2.2, h.2⟩, fun h => ⟨⟨h.1, h.2.1, h.2.2.1⟩, h.2.2.2⟩⟩
theorem group_form (L : Labels n cand gen eq disk dead) {top : Nat} {gs : List (List Nat)} (G : Groups eq (newC n cand gen top) gs) {g : List Nat} (hg : g ∈ gs) :
    (List.range n).filter (fun j => cand j && eq j (g.headD 0)) = g := by
  have hh := (group_mem L G hg).1 (headD_mem (G.ne g hg))
  conv => rhs; rw [G.form g hg]
  unfold newC
  rw [List.filter_filter, List.filter_filter]
  apply List.filter_congr
  intro j _
  rw [Bool.eq_iff_iff]
  simp only [Bool.and_eq_true, beq_iff_eq]
  constructor
  · rintro ⟨h1, h2⟩; exact ⟨⟨L.s _ _ h2, (L.g _ _ h2).trans hh.2.2.1⟩, h1⟩
  · rintro ⟨⟨h1, h2⟩, h3⟩; exact ⟨h3, L.s _ _ h1⟩
theorem group_votes (L : Labels n cand gen eq disk dead) {top : Nat} {gs : List (List Nat)} (G : Groups eq (newC n cand gen top) gs) {g : List Nat} (hg : g ∈ gs) :
    votesN n cand eq (g.headD 0) = g.length := by unfold votesN; rw [group_form L G hg]
theorem group_low (L : Labels n cand gen eq disk dead) {top : Nat} {gs : List (List Nat)} (G : Groups eq (newC n cand gen top) gs) {g : List Nat} (hg : g ∈ gs) :
    lowN n cand eq disk (g.headD 0) = lowG disk g := by
  unfold lowN
  rw [fold_low, group_form L G hg]
  exact low_of (G.ne g hg) fun i hi => by
    have h := (group_mem L G hg).1 hi
    have := L.k i h.1 h.2.1
    omega
theorem group_out (L : Labels n cand gen eq disk dead) {top : Nat} {gs : List (List Nat)} (G : Groups eq (newC n cand gen top) gs) {g : List Nat} (hg : g ∈ gs) :
    outN n cand gen eq disk dead (g.headD 0) = outG disk dead gs g := by
  have hh := (group_mem L G hg).1 (headD_mem (G.ne g hg))
  rw [Bool.eq_iff_iff]
  unfold outN outG
  simp only [List.all_eq_true, List.mem_range, Bool.or_eq_true, Bool.not_eq_true', Bool.and_eq_false_iff, beq_eq_false_iff_ne, Bool.not_eq_false', beq_iff_eq]
  constructor
  · intro h o ho
    by_cases he : o.headD 0 = g.headD 0
    · exact .inl he
    · refine .inr fun i hi => ?_
      have hm := (group_mem L G ho).1 hi
      rcases h i hm.1 with (h1 | h1 | h1) | h1
      · rw [hm.2.1] at h1; cases h1
      · exact absurd (hm.2.2.1.trans hh.2.2.1.symm) h1
      · exfalso
        have h2 := L.t _ _ _ hm.2.2.2 h1
        obtain ⟨a, ha, rfl⟩ := List.getElem_of_mem ho
        obtain ⟨b, hb, rfl⟩ := List.getElem_of_mem hg
        have hp := List.pairwise_iff_getElem.1 G.heads
        rcases Nat.lt_trichotomy a b with e | e | e
        · have := (hp a b ha hb e).2; rw [h2] at this; cases this
        · subst e; exact he rfl
        · have := (hp b a hb ha e).2; rw [L.s _ _ h2] at this; cases this
      · exact h1
  · intro h j hj
    by_cases h1 : cand j = true
    · by_cases h2 : gen j = gen (g.headD 0)
      · by_cases h3 : eq j (g.headD 0) = true
        · exact .inl (.inr (.inr h3))
        · obtain ⟨o, ho, hoj⟩ := G.cover j (mem_newC.2 ⟨hj, h1, h2.trans hh.2.2.1⟩)
          rcases h o ho with h4 | h4
          · exact absurd (L.s _ _ (h4 ▸ hoj)) h3
          · exact .inr (h4 j ((group_mem L G ho).2 ⟨hj, h1, h2.trans hh.2.2.1, hoj⟩))
      · exact .inl (.inr (.inl h2))
    · exact .inl (.inl (by simpa using h1))
theorem group_key (L : Labels n cand gen eq disk dead) {top : Nat} {gs : List (List Nat)} (G : Groups eq (newC n cand gen top) gs) {g : List Nat} (hg : g ∈ gs) :
    keyN n cand gen eq disk dead (g.headD 0) = (top * 2 + if outG disk dead gs g then 1 else 0) * 1000000 + gkey disk g := by
  have hh := (group_mem L G hg).1 (headD_mem (G.ne g hg))
  unfold keyN gkey
  rw [group_votes L G hg, group_low L G hg, group_out L G hg, hh.2.2.1]
  omega
theorem gkey_lt (L : Labels n cand gen eq disk dead) {top : Nat} {gs : List (List Nat)} (G : Groups eq (newC n cand gen top) gs) {g : List Nat} (hg : g ∈ gs) : gkey disk g < 1000000 := by
  have h1 := votes_le (n := n) (cand := cand) (eq := eq) (g.headD 0)
  rw [group_votes L G hg] at h1
  have := L.n
  unfold gkey
  omega
theorem choose_best (L : Labels n cand gen eq disk dead) {top : Nat} (htop : ∀ i, i < n → cand i = true → gen i ≤ top) {gs : List (List Nat)} (G : Groups eq (newC n cand gen top) gs) (hne : gs ≠ []) :
    IsBest cand (keyN n cand gen eq disk dead) n (chooseF disk dead gs) := by
  have hlow : ∀ g, g ∈ gs → lowG disk g ≤ 60 := fun g hg => by rw [← group_low L G hg]; exact low_le _
  have hsub : ∀ s, s ∈ amongG disk dead gs → s ∈ gs := fun s hs => by
    unfold amongG at hs
    split at hs
    · exact hs
    · exact (List.mem_filter.1 hs).1
  have hane : amongG disk dead gs ≠ [] := by
    unfold amongG
    split
    · exact hne
    · assumption
  have hsame : ∀ s, s ∈ gs → s ∉ amongG disk dead gs → outG disk dead gs s = false ∧ ∀ r, r ∈ amongG disk dead gs → outG disk dead gs r = true := fun s hs hn => by
    unfold amongG at hn ⊢
    split at hn
    · exact absurd hs hn
    · rename_i hne'
      rw [List.mem_filter] at hn
      refine ⟨by cases ho : outG disk dead gs s with
        | false => rfl
        | true => exact absurd ⟨hs, ho⟩ hn, fun r hr => ?_⟩
      rw [if_neg hne'] at hr
      exact (List.mem_filter.1 hr).2
  have hall : ∀ s r, s ∈ amongG disk dead gs → r ∈ amongG disk dead gs → outG disk dead gs s = outG disk dead gs r := fun s r hs hr => by
    unfold amongG at hs hr
    split at hs
    · rename_i he
      rw [if_pos he] at hr
      have hf : ∀ x, x ∈ gs → outG disk dead gs x = false := fun x hx => by
        cases ho : outG disk dead gs x with
        | false => rfl
        | true => have : x ∈ gs.filter (outG disk dead gs) := List.mem_filter.2 ⟨hx, ho⟩; rw [he] at this; cases this
      rw [hf s hs, hf r hr]
    · rename_i he
      rw [if_neg he] at hr
      rw [(List.mem_filter.1 hs).2, (List.mem_filter.1 hr).2]
  obtain ⟨A, B, hAB, hA, hB⟩ := pick_top hane fun s hs => hlow s (hsub s hs)
  unfold chooseF
  generalize pickG disk (amongG disk dead gs) = r at *
  have hra : r ∈ amongG disk dead gs := by rw [hAB]; simp
  have hr := hsub r hra
  have hrm := (group_mem L G hr).1 (headD_mem (G.ne r hr))
  have hkr := group_key L G hr
  have hgr := gkey_lt L G hr
  -- of every candidate with the greatest generation
  have hkey : ∀ j, j < n → cand j = true → gen j = top → ∃ g, g ∈ gs ∧ eq (g.headD 0) j = true ∧ g.headD 0 ≤ j ∧ keyN n cand gen eq disk dead j = keyN n cand gen eq disk dead (g.headD 0) := fun j hj hc hg => by
    obtain ⟨g, hgm, he⟩ := G.cover j (mem_newC.2 ⟨hj, hc, hg⟩)
    refine ⟨g, hgm, he, ?_, (L.key_eq he).symm⟩
    have hjg := (group_mem L G hgm).2 ⟨hj, hc, hg, he⟩
    have hsort : g.Pairwise (· < ·) := by
      rw [G.form g hgm]
      unfold newC
      exact ((List.pairwise_lt_range.filter _).filter _).filter _
    cases g with
    | nil => cases hjg
    | cons x t =>
      rw [List.pairwise_cons] at hsort
      rcases List.mem_cons.1 hjg with e | e
      · rw [e]; exact Nat.le_refl _
      · exact Nat.le_of_lt (hsort.1 j e)
  -- a group against the chosen one
  have hcmp : ∀ g, g ∈ gs → keyN n cand gen eq disk dead (g.headD 0) ≤ keyN n cand gen eq disk dead (r.headD 0) := fun g hg => by
    rw [group_key L G hg, hkr]
    have hgg := gkey_lt L G hg
    by_cases hga : g ∈ amongG disk dead gs
    · rw [hall g r hga hra]
      have : gkey disk g ≤ gkey disk r := by
        rw [hAB, List.mem_append, List.mem_cons] at hga
        rcases hga with h | h | h
        · exact Nat.le_of_lt (hA g h)
        · rw [h]; exact Nat.le_refl _
        · exact hB g h
      omega
    · obtain ⟨h1, h2⟩ := hsame g hg hga
      rw [h1, h2 r hra]
      simp only [Bool.false_eq_true, if_false, if_true]
      omega
  refine ⟨hrm.1, hrm.2.1, fun j hj hc => ?_, fun j hj hc => ?_⟩
  · have := htop j hj hc
    rcases Nat.lt_or_ge (gen j) top with e | e
    · exact Nat.le_of_lt (key_gen L (by rw [hrm.2.2.1]; exact e))
    · obtain ⟨g, h1, h2, h3, h4⟩ := hkey j hj hc (by omega)
      rw [h4]; exact hcmp g h1
  · have hjn : j < n := Nat.lt_trans hj hrm.1
    have := htop j hjn hc
    rcases Nat.lt_or_ge (gen j) top with e | e
    · exact key_gen L (by rw [hrm.2.2.1]; exact e)
    · obtain ⟨g, h1, h2, h3, h4⟩ := hkey j hjn hc (by omega)
      rw [h4]
      have hlt : g.headD 0 < r.headD 0 := Nat.lt_of_le_of_lt h3 hj
      rw [group_key L G h1, hkr]
      have hgg := gkey_lt L G h1
      by_cases hga : g ∈ amongG disk dead gs
      · rw [hall g r hga hra]
        have hgA : g ∈ A := by
          have hsorted : (amongG disk dead gs).Pairwise fun a b => a.headD 0 < b.headD 0 := by
            unfold amongG
            split
            · exact G.heads.imp fun h => h.1
            · exact (G.heads.imp fun h => h.1).filter _
          rw [hAB, List.mem_append, List.mem_cons] at hga
          rcases hga with h | h | h
          · exact h
          · rw [h] at hlt; omega
          · rw [hAB, List.pairwise_append, List.pairwise_cons] at hsorted
            have := hsorted.2.1.1 g h
            omega
        have := hA g hgA
        omega
      · obtain ⟨h5, h6⟩ := hsame g h1 hga
        rw [h5, h6 r hra]
        simp only [Bool.false_eq_true, if_false, if_true]
        omega
end law
end Go.Proofs.YtjabgpejmnpamaaGreatDoor.El

namespace Go.Proofs.YtjabgpejmnpamaaGreatDoor
open Go.RowKit
theorem ext_load {P : Program} {l : List Oper} {Q : Exit → Act → World → Prop} {i : Nat} {o : Oper} {r : List (Nat × Bool)} {a : Act} {b w : World} {p v : Value} (ty : TypeId) {x : Operand}
    (ho : nth l i = some o) (hw : Region.wanted o (yielded l.toArray a.tmps) = true) (hop : o.op = .load ty x) (hx : evalL a x = some p) (h : ∀ w', Ext b w' → (Instr.loadAt ty p).run P w' = .ok v w')
    (k : wpExt P l Q r b (a.put o.dst v) w) : wpExt P l Q ((i, true) :: r) b a w :=
  ext_take ho hw (fun w' hS => by
    unfold execOp
    simp only [hop, evalL_eq hx, Sem.run_bind, Sem.run_pure, Result.andThen_ok, h w' hS]) k
end Go.Proofs.YtjabgpejmnpamaaGreatDoor

namespace Go.Proofs.YtjabgpejmnpamaaGreatDoor
open Go.ChangeShapes Go.WideShapes Go.ChangeAt Go.RowKit
theorem own : ownKnob Tryz.prog.godebug = none := by kernel_rfl
theorem laid : laidOutB Tryz.prog = true := by kernel_rfl
theorem opU64 : Opens Tryz.prog 22 Pat.u64 := Opens.u64 Tryz.underlying22 (by kernel_rfl)
theorem opU8 : Opens Tryz.prog 5 Pat.u8 := Opens.u8 Tryz.underlying5 (by kernel_rfl)
theorem opI64 : Opens Tryz.prog 3 Pat.i64 := Opens.i64 Tryz.underlying3 (by kernel_rfl)
theorem opBool : Opens Tryz.prog 4 Pat.bool := Opens.bool Tryz.underlying4 (by kernel_rfl)
theorem opBools : Opens Tryz.prog 27 (Pat.slice Pat.bool) := Opens.slice opBool Tryz.underlying27 (by kernel_rfl) (by kernel_rfl)
abbrev patGeo := Pat.pair Pat.i64 (Pat.pair Pat.i64 (Pat.pair Pat.i64 (Pat.pair Pat.i64 Pat.i64)))
abbrev patCfg := Pat.pair Pat.i64 (Pat.pair Pat.i64 (Pat.pair Pat.i64 (Pat.pair Pat.i64 (Pat.pair patGeo (Pat.pair Pat.i64 Pat.i64)))))
abbrev patLab := Pat.pair Pat.u64 (Pat.pair Pat.i64 (Pat.pair Pat.u64 (Pat.pair Pat.u64 (Pat.pair patCfg (Pat.pair (Pat.slice Pat.bool) (Pat.pair Pat.i64 (Pat.pair Pat.u64 Pat.u64)))))))
theorem opGeo : Opens Tryz.prog 24 patGeo :=
  Opens.struct Tryz.underlying24 (OpensF.cons opI64 rfl (OpensF.cons opI64 rfl (OpensF.cons opI64 rfl (OpensF.cons opI64 rfl (OpensF.last opI64 rfl))))) (by kernel_rfl)
theorem opCfg : Opens Tryz.prog 26 patCfg :=
  Opens.struct Tryz.underlying26 (OpensF.cons opI64 rfl (OpensF.cons opI64 rfl (OpensF.cons opI64 rfl (OpensF.cons opI64 rfl (OpensF.cons opGeo rfl (OpensF.cons opI64 rfl (OpensF.last opI64 rfl))))))) (by kernel_rfl)
theorem opLab : Opens Tryz.prog 29 patLab :=
  Opens.struct Tryz.underlying29 (OpensF.cons opU64 rfl (OpensF.cons opI64 rfl (OpensF.cons opU64 rfl (OpensF.cons opU64 rfl (OpensF.cons opCfg rfl (OpensF.cons opBools rfl (OpensF.cons opI64 rfl (OpensF.cons opU64 rfl (OpensF.last opU64 rfl))))))))) (by kernel_rfl)
abbrev GeoT := Int × Int × Int × Int × Int
abbrev CfgT := Int × Int × Int × Int × GeoT × Int × Int
abbrev LabT := BitVec 64 × Int × BitVec 64 × BitVec 64 × CfgT × List Bool × Int × BitVec 64 × BitVec 64
abbrev LD := Lab × List Bool
def toCfg (x : CfgT) : Cfg := ⟨x.1, x.2.1, x.2.2.1, x.2.2.2.1, x.2.2.2.2.1.1, x.2.2.2.2.1.2.1, x.2.2.2.2.1.2.2.1, x.2.2.2.2.1.2.2.2.1, x.2.2.2.2.1.2.2.2.2, x.2.2.2.2.2.1, x.2.2.2.2.2.2⟩
def toLD (x : LabT) : LD := (⟨x.1, x.2.1, x.2.2.1, x.2.2.2.1, toCfg x.2.2.2.2.1, x.2.2.2.2.2.2.1, x.2.2.2.2.2.2.2.1, x.2.2.2.2.2.2.2.2⟩, x.2.2.2.2.2.1)
def LabI (l : Lab) : Prop := I64 l.disk ∧ I64 l.blob ∧ ∀ z, z ∈ cfgL l.c → I64 z
def cfgA (c : Cfg) : List Value := [.int .i64 c.d, .int .i64 c.w, .int .i64 c.t, .int .i64 c.s, .int .i64 c.r, .int .i64 c.b, .int .i64 c.k, .int .i64 c.c, .int .i64 c.o, .int .i64 c.a, .int .i64 c.g]
theorem holds_cfg {w : World} {cs : List Value} {x : CfgT} (h : patCfg.holds w cs x) : cs = cfgA (toCfg x) ∧ ∀ z, z ∈ cfgL (toCfg x) → I64 z := by
  obtain ⟨y0, y1, y2, y3, ⟨z0, z1, z2, z3, z4⟩, y5, y6⟩ := x
  obtain ⟨_, _, rfl, ⟨rfl, j0⟩, _, _, rfl, ⟨rfl, j1⟩, _, _, rfl, ⟨rfl, j2⟩, _, _, rfl, ⟨rfl, j3⟩, _, _, rfl, hg, _, _, rfl, ⟨rfl, j5⟩, ⟨rfl, j6⟩⟩ := h
  obtain ⟨_, _, rfl, ⟨rfl, k0⟩, _, _, rfl, ⟨rfl, k1⟩, _, _, rfl, ⟨rfl, k2⟩, _, _, rfl, ⟨rfl, k3⟩, ⟨rfl, k4⟩⟩ := hg
  refine ⟨rfl, fun z hz => ?_⟩
  simp only [toCfg, cfgL, List.mem_cons, List.not_mem_nil, or_false] at hz
  rcases hz with rfl | rfl | rfl | rfl | rfl | rfl | rfl | rfl | rfl | rfl | rfl <;> assumption
theorem holds_lab {w : World} {cs : List Value} {x : LabT} (h : patLab.holds w cs x) : ∃ dv, cs = (labA (toLD x).1 dv).toList ∧ SliceAt Value.bool w dv (toLD x).2 ∧ (toLD x).2.length ≤ maxLen ∧ LabI (toLD x).1 := by
  obtain ⟨x0, x1, x2, x3, y, x5, x6, x7, x8⟩ := x
  obtain ⟨_, _, rfl, ⟨rfl, _⟩, _, _, rfl, ⟨rfl, i1⟩, _, _, rfl, ⟨rfl, _⟩, _, _, rfl, ⟨rfl, _⟩, _, _, rfl, hc, _, _, rfl, hs, _, _, rfl, ⟨rfl, i6⟩, _, _, rfl, ⟨rfl, _⟩, ⟨rfl, _⟩⟩ := h
  obtain ⟨rfl, hz⟩ := holds_cfg hc
  obtain ⟨dv, rfl, hd, hl⟩ := hs
  exact ⟨dv, rfl, hd.at.1, hl, i1, i6, hz⟩
section
variable {H : Type} {enc : TypeId × Value → H} {w : World} {r : Reach} {b0 : Nat} {v : Value} {d : DataW H} {ps : List MemPlace}
set_option maxRecDepth 100000 in
theorem open_u8 (hval : Value.okWide Tryz.prog w r b0 5 v) (h : DataW.Trod enc Tryz.prog w 0 (fun _ => true) true 5 v d ps) : ∃ x, v = encB x := by
  obtain ⟨x, hx⟩ := opU8.cell (by kernel_rfl) hval h
  exact ⟨x, holds_u8 hx⟩
set_option maxRecDepth 100000 in
theorem open_lab (hval : Value.okWide Tryz.prog w r b0 29 v) (h : DataW.Trod enc Tryz.prog w 0 (fun _ => true) true 29 v d ps) : ∃ (l : Lab) (dv : Value) (ds : List Bool), v = labV l dv ∧ SliceAt Value.bool w dv ds ∧ ds.length ≤ maxLen ∧ LabI l := by
  obtain ⟨cs, x, rfl, hx⟩ := opLab.agg (by kernel_rfl) hval h
  obtain ⟨dv, h1, h2, h3, h4⟩ := holds_lab hx
  exact ⟨_, dv, _, by rw [h1], h2, h3, h4⟩
end
end Go.Proofs.YtjabgpejmnpamaaGreatDoor

namespace Go.Proofs.YtjabgpejmnpamaaGreatDoor
open Go.ChangeShapes Go.WideShapes Go.ChangeAt Go.RowKit
theorem infoBo : (Tryz.prog.info? 4).map (fun i => (i.zero, i.size, i.bytes)) = some (some (.bool false), 1, 1) := by kernel_rfl
end Go.Proofs.YtjabgpejmnpamaaGreatDoor
