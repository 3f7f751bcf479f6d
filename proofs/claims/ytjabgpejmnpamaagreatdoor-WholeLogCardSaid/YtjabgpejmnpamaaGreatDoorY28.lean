/-
  Part 28 of the proof.
-/
import Derived.Test.YtjabgpejmnpamaaGreatDoorY26
set_option linter.unusedVariables false
namespace Go.Proofs.YtjabgpejmnpamaaGreatDoor
open Go.RowKit
set_option maxRecDepth 100000
theorem run_alloc_agg {P : Program} {e : TypeId} {i : TypeInfo} {cells : Array Value} (hi : P.info? e = some i) (hz : i.zero = some (.agg cells)) (w : World) :
    (Instr.alloc e true (.tuple #[])).run P w = .ok (.pointer (some ⟨w.heap.size, 0, none⟩)) (w.alloc (.cells cells e)) := by
  simp [Instr.alloc, zeroValue, typeInfo, newVar, newRow, hi, hz, go_sem]
theorem wpList_alloc_zero {P : Program} {ops : Array Oper} {rest : List Oper} {o : Oper} {a : Act} {w : World} {Q : Exit → Act → World → Prop} (e : TypeId) (ho : o.op = .alloc e) (hw : Region.wanted o (yielded ops a.tmps) = true) {i : TypeInfo} {cells : Array Value} (hi : P.info? e = some i) (hz : i.zero = some (.agg cells))
    (h : wpList P ops Q rest (a.put o.dst (.pointer (some ⟨w.heap.size, 0, none⟩))) (w.alloc (.cells cells e))) : wpList P ops Q (o :: rest) a w := by
  refine wpList_step fun K hK => ?_
  rw [if_pos hw]
  unfold Oper.wp execOp
  simp only [ho, Sem.run_bind, Sem.run_pure, Result.andThen_ok, run_alloc_agg hi hz]
  exact hK _ _ h
theorem info_tab : (Tryz.prog.info? 327).map (·.zero) = some (some (.agg (Array.replicate 3600 (.int .i64 0)))) := by kernel_rfl
def eln (k i : Nat) : Nat := (el k i).toNat
theorem eln_cast {k i : Nat} (hk : k < 5) (hi : i < 4) : el k i = ((eln k i : Nat) : Int) := by
  have := (el_range k hk i hi).1
  unfold eln
  omega
theorem eln_lt {k i : Nat} (hk : k < 5) (hi : i < 4) : eln k i < 5 := by
  have := el_range k hk i hi
  unfold eln
  omega
def doneP (k i j : Nat) : List Nat := (List.range k).flatMap (fun k' => (List.range 4).flatMap fun i' => (List.range 4).map fun j' => eln k' i' * 60 + eln k' j') ++ ((List.range i).flatMap (fun i' => (List.range 4).map fun j' => eln k i' * 60 + eln k j') ++ (List.range j).map fun j' => eln k i * 60 + eln k j')
theorem done_j (k i j : Nat) : doneP k i (j + 1) = doneP k i j ++ [eln k i * 60 + eln k j] := by
  unfold doneP
  rw [List.range_succ (n := j), List.map_append]
  simp [List.append_assoc]
theorem done_i (k i : Nat) : doneP k (i + 1) 0 = doneP k i 4 := by
  unfold doneP
  rw [List.range_succ (n := i), List.flatMap_append]
  simp
theorem done_k (k : Nat) : doneP (k + 1) 0 0 = doneP k 4 0 := by
  unfold doneP
  rw [List.range_succ (n := k), List.flatMap_append]
  simp
theorem done_len : ∀ k, k < 5 → ∀ i, i < 5 → ∀ j, j < 5 → (doneP k i j).length ≤ 200 := by decide +kernel
theorem done_all : ∀ a, a < 5 → ∀ b, b < 5 → (doneP 5 0 0).count (a * 60 + b) = if a = b then 4 else 3 := by decide +kernel
def Tab (w : World) (g : Nat) (L : List Nat) : Prop := ∃ cs : Array Value, BoxAt w g cs 327 ∧ cs.size = 3600 ∧ ∀ i, i < 3600 → cs[i]? = some (.int .i64 ((L.count i : Nat) : Int))
theorem Tab.new (w : World) : Tab (w.alloc (.cells (Array.replicate 3600 (.int .i64 0)) 327)) w.heap.size [] :=
  ⟨_, BoxAt.new _ _ _, by rw [Array.size_replicate], fun i hi => by rw [Array.getElem?_replicate, if_pos hi]; rfl⟩
theorem Tab.ext {w w' : World} {g : Nat} {L : List Nat} (h : Tab w g L) (e : Ext w w') : Tab w' g L := by
  obtain ⟨cs, h1, h2⟩ := h
  exact ⟨cs, h1.ext e, h2⟩
theorem Tab.lt {w : World} {g : Nat} {L : List Nat} (h : Tab w g L) : g < w.heap.size := by obtain ⟨cs, h1, _⟩ := h; exact h1.lt
theorem Tab.cell {w : World} {g : Nat} {L : List Nat} (h : Tab w g L) (x : Nat) (hx : x < 3600) : w.cell? ⟨g, x, none⟩ = some (.int .i64 ((L.count x : Nat) : Int)) := by
  obtain ⟨cs, h1, _, h3⟩ := h
  exact h1.cell x (h3 x hx)
theorem Tab.free {w : World} {g : Nat} {L : List Nat} (h : Tab w g L) (x : Nat) : w.frozen? ⟨g, x, none⟩ = false := by obtain ⟨cs, h1, _⟩ := h; exact h1.free x
theorem Tab.put {w : World} {g : Nat} {L : List Nat} (h : Tab w g L) (x : Nat) (hx : x < 3600) {n : Nat} (hn : L.count x = n) : Tab (w.setCell ⟨g, x, none⟩ (.int .i64 ((n : Int) + 1))) g (L ++ [x]) := by
  obtain ⟨cs, h1, h2, h3⟩ := h
  refine ⟨_, h1.set x _, by rw [Array.size_setIfInBounds]; exact h2, fun i hi => ?_⟩
  rw [List.count_append]
  by_cases hix : x = i
  · subst hix
    rw [Array.getElem?_setIfInBounds_self_of_lt (by omega)]
    simp [hn]
  · rw [Array.getElem?_setIfInBounds_ne hix, h3 i hi]
    have : List.count i [x] = 0 := by simp [hix]
    rw [this]
    rfl
set_option maxHeartbeats 4000000 in
theorem check_any (ra ro rc : Nat) (q : Nat → Nat × Nat × Nat) (w : World) (h : Rows54 w ra ro rc q) :
    Calls Tryz.prog 208 #[.agg #[.int .i64 5, .slice (some ⟨ra, ro, none⟩) 5 rc]] w fun e w' => e = .returned (.tuple #[.int .i64 4, .int .i64 3, .int .i64 0]) ∧ Ext w w' := by
  have HR := Lib.hid h
  clear h
  obtain ⟨i0, hi0, hz0⟩ : ∃ i0, Tryz.prog.info? 327 = some i0 ∧ i0.zero = some (.agg (Array.replicate 3600 (.int .i64 0))) := by
    have := info_tab
    cases h : Tryz.prog.info? 327 with
    | none => rw [h] at this; cases this
    | some i => rw [h] at this; exact ⟨i, rfl, by injection this⟩
  go_enter Tryz.func208, Tryz.ntmps208
  have hbx := BoxAt.new w #[.int .i64 5, .slice (some ⟨ra, ro, none⟩) 5 rc] 117
  have HBX := Lib.hid hbx
  clear hbx
  go_wp2_with first | (go_at_call 232; refine (formed_any ra ro rc q _ (HR.out.ext (Ext.alloc _ _))).mono ?_; rintro e W1 ⟨rfl, hx1⟩) | (refine wpList_alloc_zero 327 rfl (by rfl) hi0 hz0 ?_; have hT := Lib.hid (Tab.new W1); have hE : Hid (Ext w (W1.alloc (.cells (Array.replicate 3600 (.int .i64 0)) 327))) := (Ext.alloc _ _).trans (Ext.trans hx1 (Ext.alloc _ _)); have hB : BoxAt (W1.alloc (.cells (Array.replicate 3600 (.int .i64 0)) 327)) w.heap.size #[.int .i64 5, .slice (some ⟨ra, ro, none⟩) 5 rc] 117 := HBX.out.ext (Ext.trans hx1 (Ext.alloc _ _)); have c0 := hB.cell 0 (v := .int .i64 5) rfl; have c1 := hB.cell 1 (v := .slice (some ⟨ra, ro, none⟩) 5 rc) rfl; have hz := hB.lt; have hgz : w.heap.size < W1.heap.size := Nat.lt_of_lt_of_le (by simp) hx1.size; clear hx1 hB hz0; generalize (W1.alloc (.cells (Array.replicate 3600 (.int .i64 0)) 327)) = W at *; generalize W1.heap.size = g at *)
  have HW := Lib.hid (HR.out.ext hE.out)
  clear HBX hi0
  go_loopw [23] (fun it wr => ∃ k : Nat, k ≤ 5 ∧ it = .int .i64 k ∧ Below g W wr ∧ Tab wr g (doneP k 0 0)) (fun it _ => 5 - (intOf it).toNat)
  case atStart => exact ⟨0, by decide, rfl, Below.refl _ _, hT.out⟩
  case round =>
    obtain ⟨k, hk, rfl, hX, hTb⟩ := hrel
    have HRr := HR.out.ext (Below.trans hE.out (Below.mono hX (by omega)))
    have d0 := (Below.cell hX (p := ⟨w.heap.size, 0, none⟩) hgz).trans c0
    have d1 := (Below.cell hX (p := ⟨w.heap.size, 1, none⟩) hgz).trans c1
    have hz2 := Nat.lt_of_lt_of_le hz hX.size
    have lra := HRr.lt
    have HX := Lib.hid hX
    have HTB := Lib.hid hTb
    clear hX hTb
    by_cases hlt : k < 5
    · have hkI : (k : Int) < 5 := by omega
      have rk := HRr.row k hlt
      have lk := HRr.blk k hlt
      have hcap := HRr.cap
      have hkg : (q k).1 < w.heap.size := HR.out.blk k hlt
      have HC : Hid (∀ i, i < 4 → w.cell? ⟨(q k).1, (q k).2.1 + i, none⟩ = some (.int .i64 ((eln k i : Nat) : Int))) := fun i hi => by have := HR.out.cell k hlt i hi; rw [eln_cast hlt hi] at this; exact this
      have hkc : 4 ≤ (q k).2.2 := HRr.cl k hlt
      generalize q k = z at *
      obtain ⟨kb, ko, kc⟩ := z
      simp only at rk lk hkg HC hkc
      have HRK := Lib.hid rk
      clear HRr
      go_wp2
      clear rk
      generalize wr = wo at *
      go_loopw [29] (fun it wr => ∃ i : Nat, i ≤ 4 ∧ it = .int .i64 i ∧ Below g W wr ∧ Tab wr g (doneP k i 0)) (fun it _ => 4 - (intOf it).toNat)
      case atStart => exact ⟨0, by decide, rfl, HX.out, HTB.out⟩
      case round =>
        obtain ⟨i, hi, rfl, hX, hTb⟩ := hrel
        have HX2 := Lib.hid hX
        have HTB2 := Lib.hid hTb
        by_cases hlt2 : i < 4
        · have hiI : (i : Int) < 4 := by omega
          have ci := (Below.cell (show Ext w wr from Below.trans hE.out (Below.mono hX (by omega))) (p := ⟨kb, ko + i, none⟩) hkg).trans (HC.out i hlt2)
          have hik : i ≤ kc := by omega
          have lkb : kb < wr.heap.size := Nat.lt_of_lt_of_le hkg (show Ext w wr from Below.trans hE.out (Below.mono hX (by omega))).size
          clear hX hTb
          go_wp2
          clear ci
          generalize wr = wi at *
          go_loopw [35] (fun it wr => ∃ j : Nat, j ≤ 4 ∧ it = .int .i64 j ∧ Below g W wr ∧ Tab wr g (doneP k i j)) (fun it _ => 4 - (intOf it).toNat)
          case atStart => exact ⟨0, by decide, rfl, HX2.out, HTB2.out⟩
          case round =>
            obtain ⟨j, hj, rfl, hX, hTb⟩ := hrel
            have HX3 := Lib.hid hX
            have HTB3 := Lib.hid hTb
            by_cases hlt3 : j < 4
            · have hjI : (j : Int) < 4 := by omega
              have cj := (Below.cell (show Ext w wr from Below.trans hE.out (Below.mono hX (by omega))) (p := ⟨kb, ko + j, none⟩) hkg).trans (HC.out j hlt3)
              have hjk : j ≤ kc := by omega
              have lkb2 : kb < wr.heap.size := Nat.lt_of_lt_of_le hkg (show Ext w wr from Below.trans hE.out (Below.mono hX (by omega))).size
              have ha := eln_lt hlt hlt2
              have hb := eln_lt hlt hlt3
              have tg := hTb.lt
              have tc := hTb.cell (eln k i * 60 + eln k j) (by omega)
              have tf := hTb.free (eln k i * 60 + eln k j)
              have hcn : (doneP k i j).count (eln k i * 60 + eln k j) ≤ 200 := Nat.le_trans List.count_le_length (done_len k hlt i (by omega) j (by omega))
              have hTn := Lib.hid (fun (n : Nat) (h : (doneP k i j).count (eln k i * 60 + eln k j) = n) => (done_j k i j) ▸ (hTb.ext (Ext.drew wr)).put (eln k i * 60 + eln k j) (by omega) h)
              obtain ⟨n, hn⟩ : ∃ n, (doneP k i j).count (eln k i * 60 + eln k j) = n := ⟨_, rfl⟩
              have hTm := Lib.hid (hTn.out n hn)
              rw [hn] at tc hcn
              clear hX hTb hTn hn
              generalize eln k i = a at *
              generalize eln k j = b at *
              have haI : (a : Int) < 60 := by omega
              have hbI : (b : Int) < 60 := by omega
              have hw9 : IntKind.i64.wrap ((n : Int) + 1) = (n : Int) + 1 := i64_id _ (by omega)
              go_wp2_with fail
              refine wp_region_ext [(0, true), (1, true), (2, true), (3, true), (4, true), (5, true), (6, true), (7, true), (8, false)] (by kernel_rfl) (by kernel_rfl) ?_
              iterate 8 ((first
               | refine ext_move rfl rfl (by rfl) (by rfl) ?_
               | refine ext_assign rfl rfl (by rfl) (by rfl) ?_
               | refine ext_pick_t rfl rfl (by rfl) (by rfl) (by rfl) ?_
               | refine ext_pick_f rfl rfl (by rfl) (by rfl) (by rfl) ?_
               | (apply ext_take rfl (by rfl)
                  · intro w' hS
                    have hSc := hS.cells
                    (try simp only [World.size_drew, World.cell?_drew] at hSc)
                    go_simp
                    (try simp (disch := omega) only [i64_id, u64_id, ↓IntWalk.iteOmega, Int.tdiv_eq_ediv_of_nonneg, Int.tmod_eq_emod_of_nonneg])
                    try rfl)
               | refine ext_pass rfl (by rfl) ?_); simp only [Act.put, setZa, setZ0, setZ1])
              (refine ext_last rfl (by rfl) (by kernel_rfl) (fun K hK => ?_)
               go_simp
               refine hK _ _ ?_
               clear hK K
               (try simp only [Act.put, setZa, setZ0, setZ1]))
              go_wp2
              go_roundw
              case rel => exact ⟨j + 1, by omega, by go_num, bel_set (HX3.out.drew) (Nat.le_refl _) _ _, hTm.out⟩
              case measure => simp [intOf]; omega
            · have hjI : ¬ ((j : Int) < 4) := by omega
              have hj4 : j = 4 := by omega
              subst hj4
              go_wp2
              go_roundw
              case rel => exact ⟨i + 1, by omega, by go_num, hX, done_i k i ▸ hTb⟩
              case measure => simp [intOf]; omega
        · have hiI : ¬ ((i : Int) < 4) := by omega
          have hi4 : i = 4 := by omega
          subst hi4
          go_wp2
          go_roundw
          case rel => exact ⟨k + 1, by omega, by go_num, hX, done_k k ▸ hTb⟩
          case measure => simp [intOf]; omega
    · have hkI : ¬ ((k : Int) < 5) := by omega
      have hk5 : k = 5 := by omega
      subst hk5
      have t0 := HTB.out.cell (0 * 60 + 0) (by decide)
      have t1 := HTB.out.cell (0 * 60 + 1) (by decide)
      rw [done_all 0 (by decide) 0 (by decide), if_pos rfl] at t0
      rw [done_all 0 (by decide) 1 (by decide), if_neg (by decide)] at t1
      have tg := HTB.out.lt
      go_wp2_with fail
      refine wp_region_ext [(0, true), (1, true), (2, true), (3, true), (4, true), (5, true), (6, true), (7, true)] (by kernel_rfl) (by kernel_rfl) ?_
      iterate 8 ((first
       | refine ext_move rfl rfl (by rfl) (by rfl) ?_
       | refine ext_assign rfl rfl (by rfl) (by rfl) ?_
       | refine ext_pick_t rfl rfl (by rfl) (by rfl) (by rfl) ?_
       | refine ext_pick_f rfl rfl (by rfl) (by rfl) (by rfl) ?_
       | (apply ext_take rfl (by rfl)
          · intro w' hS
            have hSc := hS.cells
            (try simp only [World.size_drew, World.cell?_drew] at hSc)
            go_simp
            (try simp (disch := omega) only [i64_id, u64_id, ↓IntWalk.iteOmega, Int.tdiv_eq_ediv_of_nonneg, Int.tmod_eq_emod_of_nonneg])
            try rfl)
       | refine ext_pass rfl (by rfl) ?_); simp only [Act.put, setZa, setZ0, setZ1])
      refine ext_nil ?_
      have hTv := Lib.hid (HTB.out.ext (Ext.drew wr))
      have hXv := Lib.hid (show Below g W wr.drew from HX.out.drew)
      have d0v : wr.drew.cell? ⟨w.heap.size, 0, none⟩ = some (.int .i64 5) := by rw [World.cell?_drew]; exact d0
      have hzv : w.heap.size < wr.drew.heap.size := hz2
      clear t0 t1 tg HTB HX d0 d1 hz2 lra HRr hlt hkI hk
      generalize wr.drew = wv at *
      go_wp2
      go_loopw [58] (fun it wr => ∃ a : Nat, a ≤ 5 ∧ it = .int .i64 a ∧ Ext wv wr) (fun it _ => 5 - (intOf it).toNat)
      case atStart => exact ⟨0, by decide, rfl, Ext.refl _⟩
      case round =>
        obtain ⟨a, ha, rfl, hX⟩ := hrel
        have e0 := (Below.cell hX (p := ⟨w.heap.size, 0, none⟩) hzv).trans d0v
        have hz3 := Nat.lt_of_lt_of_le hzv hX.size
        have HX := Lib.hid hX
        by_cases hlt : a < 5
        · have haI : (a : Int) < 5 := by omega
          clear hX
          go_wp2
          generalize wr = wo at *
          go_loopw [63] (fun it wr => ∃ b : Nat, b ≤ 5 ∧ it = .int .i64 b ∧ Ext wo wr) (fun it _ => 5 - (intOf it).toNat)
          case atStart => exact ⟨0, by decide, rfl, Ext.refl _⟩
          case round =>
            obtain ⟨b, hb, rfl, hX⟩ := hrel
            have HX2 := Lib.hid hX
            by_cases hlt2 : b < 5
            · have hbI : (b : Int) < 5 := by omega
              have hTw := hTv.out.ext (Ext.trans HX.out hX)
              have tc := hTw.cell (a * 60 + b) (by omega)
              rw [done_all a hlt b hlt2] at tc
              have tg := hTw.lt
              have haI2 : (a : Int) < 60 := by omega
              have hbI2 : (b : Int) < 60 := by omega
              clear hX hTw
              by_cases hab : a = b
              · subst hab
                rw [if_pos rfl] at tc
                go_wp2
                go_roundw
                case rel => exact ⟨a + 1, by omega, by go_num, HX2.out⟩
                case measure => simp [intOf]; omega
              · rw [if_neg hab] at tc
                have habI : ((a : Int) == (b : Int)) = false := by rw [beq_eq_false_iff_ne]; omega
                have habJ : ¬ ((a : Int) = (b : Int)) := by omega
                go_wp2
                go_roundw
                case rel => exact ⟨b + 1, by omega, by go_num, HX2.out⟩
                case measure => simp [intOf]; omega
            · have hbI : ¬ ((b : Int) < 5) := by omega
              go_wp2
              go_roundw
              case rel => exact ⟨a + 1, by omega, by go_num, HX.out.trans hX⟩
              case measure => simp [intOf]; omega
        · have haI : ¬ ((a : Int) < 5) := by omega
          go_wp2_with fail
          go_ret3
          exact ⟨rfl, Below.trans hE.out (Below.trans (Below.mono hXv.out (by omega)) (Below.mono hX (by have := hE.out.size; have := hXv.out.size; omega)))⟩
end Go.Proofs.YtjabgpejmnpamaaGreatDoor

namespace Go.Proofs.YtjabgpejmnpamaaGreatDoor
open Go.RowKit
set_option maxRecDepth 100000
abbrev numC (rv rk on : Value) (h c : Int) : Array Value := #[.int .i64 5, rv, .int .i64 1, .int .i64 0, .int .i64 4, .int .i64 4, .int .i64 5, rk, on, .int .i64 h, .int .i64 c]
set_option maxHeartbeats 2000000 in
theorem ldata_any (a1 a2 a3 : Option Addr) (n1 n2 n3 c1 c2 c3 : Nat) (h c : Int) (w : World) :
    Calls Tryz.prog 157 #[.agg (numC (.slice a1 n1 c1) (.slice a2 n2 c2) (.slice a3 n3 c3) h c)] w fun e w' => e = .returned (.int .i64 1) ∧ Ext w w' := by
  unfold numC
  go_enter Tryz.func157, Tryz.ntmps157
  go_wp2
  go_ret
  exact ⟨rfl, Ext.alloc _ _⟩
set_option maxHeartbeats 2000000 in
theorem lgroups_any (a1 a2 a3 : Option Addr) (n1 n2 n3 c1 c2 c3 : Nat) (h c : Int) (w : World) :
    Calls Tryz.prog 156 #[.agg (numC (.slice a1 n1 c1) (.slice a2 n2 c2) (.slice a3 n3 c3) h c)] w fun e w' => e = .returned (.int .i64 5) ∧ Ext w w' := by
  unfold numC
  go_enter Tryz.func156, Tryz.ntmps156
  go_wp2
  go_ret
  exact ⟨rfl, Ext.alloc _ _⟩
structure FamR (w : World) (gon : Nat) (vs : Nat → Value) (N : Nat) : Prop where
  row : ∀ d, d < 6 → ∃ l : List Int, OwnI w (gon + 1) (vs d) l ∧ l.length ≤ N
  apart : ∀ d e, d < 6 → e < 6 → d ≠ e → (vs d).ownBlock = none ∨ (vs d).ownBlock ≠ (vs e).ownBlock
def updF (vs : Nat → Value) (d : Nat) (v : Value) : Nat → Value := fun k => if k = d then v else vs k
theorem FamR.ext {w w' : World} {gon N : Nat} {vs : Nat → Value} (h : FamR w gon vs N) (e : Ext w w') : FamR w' gon vs N :=
  ⟨fun d hd => by obtain ⟨l, h1, h2⟩ := h.row d hd; exact ⟨l, h1.ext e, h2⟩, h.apart⟩
theorem FamR.more {w : World} {gon N M : Nat} {vs : Nat → Value} (h : FamR w gon vs N) (hm : N ≤ M) : FamR w gon vs M :=
  ⟨fun d hd => by obtain ⟨l, h1, h2⟩ := h.row d hd; exact ⟨l, h1, by omega⟩, h.apart⟩
theorem FamR.off {w : World} {gon N g : Nat} {vs : Nat → Value} (h : FamR w gon vs N) (hg : g ≤ gon) (o : Nat) (y : Value) : FamR (w.setCell ⟨g, o, none⟩ y) gon vs N :=
  ⟨fun d hd => by obtain ⟨l, h1, h2⟩ := h.row d hd; exact ⟨l, h1.off (fun e => by have := (h1.lt g e).1; omega) o y, h2⟩, h.apart⟩
theorem FamR.nil {w : World} {gon N : Nat} {vs : Nat → Value} (h : FamR w gon vs N) (d : Nat) (hd : d < 6) : FamR w gon (updF vs d (.slice none 0 0)) N := by
  refine ⟨fun k hk => ?_, fun k e hk he hne => ?_⟩
  · unfold updF
    split
    · exact ⟨[], OwnG.nil, Nat.zero_le _⟩
    · exact h.row k hk
  · unfold updF
    split
    · exact .inl rfl
    · split
      · cases hv : (vs k).ownBlock with
        | none => exact .inl rfl
        | some g => exact .inr (by simp [Value.ownBlock])
      · exact h.apart k e hk he hne
theorem FamR.app {w w1 w7 : World} {gon N d : Nat} {vs : Nat → Value} {v' : Value} {l' : List Int} (h : FamR w gon vs N) (hd : d < 6) (e : Ext w w1) (ho : OwnI w7 (gon + 1) v' l') (hl : l'.length ≤ N + 1) (hg : w1.grownBy w7 (vs d).ownBlock) (hat : v'.ownBlock = (vs d).ownBlock ∨ v'.ownBlock = some w1.heap.size) :
    FamR w7 gon (updF vs d v') (N + 1) := by
  have hlt : ∀ k, k < 6 → ∀ g, (vs k).ownBlock = some g → g < w1.heap.size := fun k hk g hg => by
    obtain ⟨l, h1, _⟩ := h.row k hk
    exact Nat.lt_of_lt_of_le (h1.lt g hg).2 e.size
  refine ⟨fun k hk => ?_, fun k m hk hm hne => ?_⟩
  · unfold updF
    split
    · exact ⟨l', ho, hl⟩
    · rename_i hkd
      obtain ⟨l, h1, h2⟩ := h.row k hk
      refine ⟨l, (h1.ext e).kept hg ?_, by omega⟩
      exact (h.apart k d hk hd hkd).symm
  · unfold updF
    by_cases hkd : k = d
    · rw [if_pos hkd, if_neg (fun h => hne (hkd.trans h.symm))]
      rcases hat with hat | hat
      · rw [hat]; exact h.apart d m hd hm (fun h => hne (hkd.trans h))
      · rw [hat]
        refine .inr (fun h => ?_)
        have := hlt m hm _ h.symm
        omega
    · rw [if_neg hkd]
      by_cases hmd : m = d
      · rw [if_pos hmd]
        rcases hat with hat | hat
        · rw [hat]; exact h.apart k d hk hd hkd
        · rw [hat]
          cases hv : (vs k).ownBlock with
          | none => exact .inl rfl
          | some g => exact .inr (fun h => by have := hlt k hk g hv; cases h; omega)
      · rw [if_neg hmd]; exact h.apart k m hk hm hne
theorem upd_box {vs : Nat → Value} {d : Nat} {v : Value} (hd : d < 5) : (#[vs 0, vs 1, vs 2, vs 3, vs 4] : Array Value).setIfInBounds d v = #[updF vs d v 0, updF vs d v 1, updF vs d v 2, updF vs d v 3, updF vs d v 4] := by
  match d, hd with
  | 0, _ => rfl
  | 1, _ => rfl
  | 2, _ => rfl
  | 3, _ => rfl
  | 4, _ => rfl
theorem fam_cell {w : World} {g d : Nat} {vs : Nat → Value} {t : TypeId} (h : BoxAt w g #[vs 0, vs 1, vs 2, vs 3, vs 4] t) (hd : d < 5) : w.cell? ⟨g, d, none⟩ = some (vs d) := by
  match d, hd with
  | 0, _ => exact h.cell 0 rfl
  | 1, _ => exact h.cell 1 rfl
  | 2, _ => exact h.cell 2 rfl
  | 3, _ => exact h.cell 3 rfl
  | 4, _ => exact h.cell 4 rfl
structure MS (W5 : World) (gx gon : Nat) (cx : Array Value) (vs : Nat → Value) (N : Nat) (rk : Value) (xs : List Value) (wr : World) : Prop where
  lt : gx < gon
  bel : Below gx W5 wr
  fam : FamR wr gon vs N
  boxo : BoxAt wr gon #[vs 0, vs 1, vs 2, vs 3, vs 4] 40
  row : OwnG id 40 wr (gon + 1) rk xs
  boxx : BoxAt wr gx cx 264
  size : W5.heap.size ≤ wr.heap.size
section
variable {W5 : World} {gx gon : Nat} {cx : Array Value} {vs : Nat → Value} {N : Nat} {rk : Value} {xs : List Value} {wr w1 w7 : World}
theorem MS.ext (h : MS W5 gx gon cx vs N rk xs wr) (e : Ext wr w1) : MS W5 gx gon cx vs N rk xs w1 :=
  ⟨h.lt, Below.trans h.bel (Below.mono e (by have := h.boxx.lt; omega)), h.fam.ext e, h.boxo.ext e, h.row.ext e, h.boxx.ext e, Nat.le_trans h.size e.size⟩
theorem fam_ge (h : FamR wr gon vs N) {d : Nat} (hd : d < 6) : ∀ g, (vs d).ownBlock = some g → gon + 1 ≤ g ∧ g < wr.heap.size := fun g hg => by
  obtain ⟨l, h1, _⟩ := h.row d hd
  exact h1.lt g hg
theorem MS.app {d : Nat} {v' : Value} {l' : List Int} (h : MS W5 gx gon cx vs N rk xs wr) (hd : d < 6) (e : Ext wr w1) (ho : OwnI w7 (gon + 1) v' l') (hl : l'.length ≤ N + 1) (hg : w1.grownBy w7 (vs d).ownBlock) (hat : v'.ownBlock = (vs d).ownBlock ∨ v'.ownBlock = some w1.heap.size) :
    Below gx W5 w7 ∧ FamR w7 gon (updF vs d v') (N + 1) ∧ BoxAt w7 gon #[vs 0, vs 1, vs 2, vs 3, vs 4] 40 ∧ OwnG id 40 w7 (gon + 1) rk xs ∧ BoxAt w7 gx cx 264 ∧ W5.heap.size ≤ w7.heap.size := by
  have h1 := h.ext e
  have hge := fam_ge h.fam hd
  obtain ⟨l, hl1, _⟩ := h.fam.row d hd
  refine ⟨Below.grown h1.bel hg (by have := h1.boxx.lt; omega) (fun k hk => by have := hge k hk; have := h.lt; omega), h.fam.app hd e ho hl hg hat, h1.boxo.grown hg (fun hb => by have := hge gon hb.symm; omega), h1.row.kept hg (ssrows_apart (hl1.ext e) h1.row (by decide)), h1.boxx.grown hg (fun hb => by have := hge gx hb.symm; have := h.lt; omega), Nat.le_trans h1.size hg.size⟩
theorem MS.app5 {v' : Value} {l' : List Int} (h : MS W5 gx gon cx vs N rk xs wr) (e : Ext wr w1) (ho : OwnI w7 (gon + 1) v' l') (hl : l'.length ≤ N + 1) (hg : w1.grownBy w7 (vs 5).ownBlock) (hat : v'.ownBlock = (vs 5).ownBlock ∨ v'.ownBlock = some w1.heap.size) :
    MS W5 gx gon cx (updF vs 5 v') (N + 1) rk xs w7 := by
  obtain ⟨h1, h2, h3, h4, h5, h6⟩ := h.app (by decide) e ho hl hg hat
  exact ⟨h.lt, h1, h2, h3, h4, h5, h6⟩
theorem MS.put {d : Nat} {v' : Value} {l' : List Int} (h : MS W5 gx gon cx vs N rk xs wr) (hd : d < 5) (e : Ext wr w1) (ho : OwnI w7 (gon + 1) v' l') (hl : l'.length ≤ N + 1) (hg : w1.grownBy w7 (vs d).ownBlock) (hat : v'.ownBlock = (vs d).ownBlock ∨ v'.ownBlock = some w1.heap.size) :
    MS W5 gx gon cx (updF vs d v') (N + 1) rk xs (w7.setCell ⟨gon, d, none⟩ v') := by
  obtain ⟨h1, h2, h3, h4, h5, h6⟩ := h.app (by omega) e ho hl hg hat
  refine ⟨h.lt, bel_set h1 (by have := h.lt; omega) _ _, h2.off (Nat.le_refl _) _ _, ?_, h4.off (fun hb => by have := (h4.lt gon hb).1; omega) _ _, h5.set_off (by have := h.lt; omega) _ _, by simpa using h6⟩
  rw [← upd_box hd]
  exact h3.set d v'
theorem MS.nil5 (h : MS W5 gx gon cx vs N rk xs wr) : MS W5 gx gon cx (updF vs 5 (.slice none 0 0)) N rk xs wr := ⟨h.lt, h.bel, h.fam.nil 5 (by decide), h.boxo, h.row, h.boxx, h.size⟩
theorem MS.more {M : Nat} (h : MS W5 gx gon cx vs N rk xs wr) (hm : N ≤ M) : MS W5 gx gon cx vs M rk xs wr := ⟨h.lt, h.bel, h.fam.more hm, h.boxo, h.row, h.boxx, h.size⟩
theorem MS.rank {v' y : Value} (h : MS W5 gx gon cx vs N rk xs wr) (e : Ext wr w1) (ho : OwnG id 40 w7 (gon + 1) v' (xs ++ [y])) (hg : w1.grownBy w7 rk.ownBlock) :
    MS W5 gx gon (cx.setIfInBounds 7 v') vs N v' (xs ++ [y]) (w7.setCell ⟨gx, 7, none⟩ v') := by
  have h1 := h.ext e
  have hge := h1.row.lt
  have hlt := h.lt
  refine ⟨h.lt, bel_set (Below.grown h1.bel hg (by have := h1.boxx.lt; omega) (fun k hk => by have := (hge k hk).1; omega)) (Nat.le_refl _) _ _, ?_, (h1.boxo.grown hg (fun hb => by have := (hge gon hb.symm).1; omega)).set_off (by omega) _ _,
    ho.off (fun hb => by have := (ho.lt gx hb).1; omega) _ _, (h1.boxx.grown hg (fun hb => by have := (hge gx hb.symm).1; omega)).set 7 v', by have := h1.size; have := hg.size; simp; omega⟩
  refine FamR.off ⟨fun d hd => ?_, h.fam.apart⟩ (by omega) _ _
  obtain ⟨l, k1, k2⟩ := h1.fam.row d hd
  exact ⟨l, k1.kept hg (ssrows_apart h1.row k1 (by decide)), k2⟩
end
end Go.Proofs.YtjabgpejmnpamaaGreatDoor

namespace Go.Proofs.YtjabgpejmnpamaaGreatDoor
open Go.RowKit Go.Shelf
set_option maxRecDepth 100000
set_option maxHeartbeats 4000000 in
theorem dnew_any (B P : Nat) (w : World) (hP : BoxAt w P (pwC 0) 124) (hB : B ≤ P) :
    Calls Tryz.prog 24 #[gV, .slice none 0 0, .pointer (some ⟨P, 0, none⟩)] w fun e w' => ∃ D n, e = .returned (.tuple #[.pointer (some ⟨D, 0, none⟩), .int .i64 0]) ∧ Ph B w' D P n [] ∧ Ext w w' := by
  have HP := Lib.hid hP
  have lP := hP.lt
  have hx0 := Ext.alloc w (.cells #[.int .i64 60, .int .i64 5, .int .i64 2, .int .i64 3, .int .i64 1] 24)
  have HG := Lib.hid (BoxAt.new w #[.int .i64 60, .int .i64 5, .int .i64 2, .int .i64 3, .int .i64 1] 24)
  have HX0 := Lib.hid hx0
  clear hP hx0
  go_enter Tryz.func24, Tryz.ntmps24
  go_wp2_with first | (go_at_call 53; refine (mnew_any _).mono ?_; rintro e W1 ⟨M, S, A, rfl, hbl, hmd, hx1⟩; have HBL := Lib.hid hbl; have HM := Lib.hid hmd; have HX1 := Lib.hid (HX0.out.trans hx1); have hG := HG.out.ext hx1; have HG1 := Lib.hid hG; have g0 := hG.cell 0 (v := .int .i64 60) rfl; have g1 := hG.cell 1 (v := .int .i64 5) rfl; have g2 := hG.cell 2 (v := .int .i64 2) rfl; have g3 := hG.cell 3 (v := .int .i64 3) rfl; have g4 := hG.cell 4 (v := .int .i64 1) rfl; have lg := hG.lt; clear hbl hmd hx1 hG) | (go_at_call 54; refine (fvalid_any _).mono ?_; rintro e W2 ⟨rfl, hx2⟩; have HM2 := Lib.hid (HM.out.ext hx2); have HX2 := Lib.hid (HX1.out.trans hx2); have hG := HG1.out.ext hx2; have f0 := hG.cell 0 (v := .int .i64 60) rfl; have f1 := hG.cell 1 (v := .int .i64 5) rfl; have f2 := hG.cell 2 (v := .int .i64 2) rfl; have f3 := hG.cell 3 (v := .int .i64 3) rfl; have f4 := hG.cell 4 (v := .int .i64 1) rfl; have lg2 := hG.lt; have hP2 := HP.out.ext HX2.out; have p3 := hP2.cell 3 (v := .int .i64 0) rfl; have lp2 := hP2.lt; clear hx2 hG hP2 g0 g1 g2 g3 g4 lg)
  refine wp_region_ext [(0, true), (1, true), (3, true), (5, true), (6, true), (7, true), (8, true), (9, true), (2, false), (4, false), (10, true), (11, false), (12, true), (13, true)] (by kernel_rfl) (by kernel_rfl) ?_
  iterate 8 ((first
   | refine ext_move rfl rfl (by rfl) (by rfl) ?_
   | refine ext_assign rfl rfl (by rfl) (by rfl) ?_
   | refine ext_pick_t rfl rfl (by rfl) (by rfl) (by rfl) ?_
   | refine ext_pick_f rfl rfl (by rfl) (by rfl) (by rfl) ?_
   | (apply ext_take rfl (by rfl)
      · intro w' hS
        have hSc := hS.cells
        (try simp only [World.size_drew, World.cell?_drew] at hSc)
        go_simp
        (try simp (disch := omega) only [i64_id, u64_id, ↓IntWalk.iteOmega, Int.tdiv_eq_ediv_of_nonneg, Int.tmod_eq_emod_of_nonneg])
        try rfl)
   | refine ext_pass rfl (by rfl) ?_); simp only [Act.put, setZa, setZ0, setZ1])
  (refine ext_do rfl (by rfl) (fun K hK => ?_)
   go_simp
   go_at_call 55
   refine (cnew_any _ M S 90 A _ (HM2.out.ext (by first | exact Ext.refl _ | exact Ext.drew _)) HBL.out).mono ?_
   rintro e W3 ⟨n, A1, A2, rfl, hb1, hb2, hc3, hx3⟩
   have HX3 : Hid (Ext W2 W3) := Lib.hid (Ext.trans (by first | exact Ext.refl _ | exact Ext.drew _) hx3)
   have HB1 := Lib.hid hb1
   have HB2 := Lib.hid hb2
   have HC3 := Lib.hid hc3
   refine hK _ _ (by first | exact hx3 | exact HX3.out) ?_
   clear hK K hb1 hb2 hc3 hx3
   (try simp only [Act.put, setZa, setZ0, setZ1]))
  (refine ext_do rfl (by rfl) (fun K hK => ?_)
   go_simp
   go_at_call 56
   refine (fclone_any _).mono ?_
   rintro e W4 ⟨rfl, hx4⟩
   have HX4 := Lib.hid hx4
   refine hK _ _ hx4 ?_
   clear hK K hx4
   (try simp only [Act.put, setZa, setZ0, setZ1]))
  iterate 1 ((first
   | refine ext_move rfl rfl (by rfl) (by rfl) ?_
   | refine ext_assign rfl rfl (by rfl) (by rfl) ?_
   | refine ext_pick_t rfl rfl (by rfl) (by rfl) (by rfl) ?_
   | refine ext_pick_f rfl rfl (by rfl) (by rfl) (by rfl) ?_
   | (apply ext_take rfl (by rfl)
      · intro w' hS
        have hSc := hS.cells
        (try simp only [World.size_drew, World.cell?_drew] at hSc)
        go_simp
        (try simp (disch := omega) only [i64_id, u64_id, ↓IntWalk.iteOmega, Int.tdiv_eq_ediv_of_nonneg, Int.tmod_eq_emod_of_nonneg])
        try rfl)
   | refine ext_pass rfl (by rfl) ?_); simp only [Act.put, setZa, setZ0, setZ1])
  (refine ext_do rfl (by rfl) (fun K hK => ?_)
   go_simp
   refine hK _ _ (by first | exact Ext.alloc _ _ | exact (Ext.drew _).trans (Ext.alloc _ _)) ?_
   clear hK K
   (try simp only [Act.put, setZa, setZ0, setZ1]))
  iterate 2 ((first
   | refine ext_move rfl rfl (by rfl) (by rfl) ?_
   | refine ext_assign rfl rfl (by rfl) (by rfl) ?_
   | refine ext_pick_t rfl rfl (by rfl) (by rfl) (by rfl) ?_
   | refine ext_pick_f rfl rfl (by rfl) (by rfl) (by rfl) ?_
   | (apply ext_take rfl (by rfl)
      · intro w' hS
        have hSc := hS.cells
        (try simp only [World.size_drew, World.cell?_drew] at hSc)
        go_simp
        (try simp (disch := omega) only [i64_id, u64_id, ↓IntWalk.iteOmega, Int.tdiv_eq_ediv_of_nonneg, Int.tmod_eq_emod_of_nonneg])
        try rfl)
   | refine ext_pass rfl (by rfl) ?_); simp only [Act.put, setZa, setZ0, setZ1])
  refine ext_nil ?_
  go_wp2_with fail
  go_ret2
  have hx := (HX3.out.trans HX4.out).trans (Ext.alloc W4 (.cells (dkC 0 0 0 0 0 n.C P) 140))
  have hz2 := HX2.out.size
  have hz4 := (HX3.out.trans HX4.out).size
  have hzm : W2.heap.size ≤ W2.drew.heap.size := Nat.le_refl _
  refine ⟨W4.heap.size, n, rfl, ⟨⟨⟨0, 0, 0, 0, 0, BoxAt.new W4 _ _⟩, ⟨0, (HP.out.ext HX2.out).ext hx⟩, by omega, hB⟩, ⟨A1, A2, .slice none 0 0, HB1.out, HB2.out, ((HC3.out.lower ?_).ext HX4.out).ext (Ext.alloc _ _), World.ownsRow_nil _ _ _ _⟩, fun g hg => by cases hg⟩, HX2.out.trans hx⟩
  have : B ≤ W2.heap.size := by omega
  exact this
end Go.Proofs.YtjabgpejmnpamaaGreatDoor

namespace Go.Proofs.YtjabgpejmnpamaaGreatDoor
open Go.RowKit Go.Shelf
set_option maxRecDepth 100000
def Wrt (l : List (BitVec 8)) (A : Array Value) (w : World) : Prop := ∃ v bb, A[120]? = some (.int .i64 1) ∧ A[121]? = some v ∧ OwnB w bb v l
theorem Wrt.chg {l : List (BitVec 8)} {A : Array Value} {B : Nat} {T : List TypeId} {w w' : World} (h : Wrt l A w) (e : Chg B T w w') (ht : 5 ∉ T) : Wrt l A w' := by
  obtain ⟨v, bb, h1, h2, h3⟩ := h
  exact ⟨v, bb, h1, h2, ownsRow_chg e h3 ht⟩
structure Pw (B : Nat) (w : World) (D P : Nat) (n : Cn) (l : List (BitVec 8)) : Prop where
  dsk : Dsk B w D P n.C
  csh : ∃ A1 A2 pv, Csh B w n A1 A2 pv ∧ Wrt l A2 w
theorem Pw.chg {B B' : Nat} {T : List TypeId} {w w' : World} {D P : Nat} {n : Cn} {l : List (BitVec 8)} (h : Pw B w D P n l) (e : Chg B' T w w') (hT : ∀ t, t ∈ T → t ∉ [140, 124, 270, 208, 204, 5]) : Pw B w' D P n l := by
  obtain ⟨h1, ⟨A1, A2, pv, c, d⟩⟩ := h
  have k := fun t (ht : t ∈ [140, 124, 270, 208, 204, 5]) => fun (hm : t ∈ T) => hT t hm ht
  exact ⟨h1.chg e (k _ (by simp)) (k _ (by simp)), ⟨A1, A2, pv, c.chg e (k _ (by simp)) (k _ (by simp)) (k _ (by simp)), d.chg e (k _ (by simp))⟩⟩
theorem Pw.ext {B : Nat} {w w' : World} {D P : Nat} {n : Cn} {l : List (BitVec 8)} (h : Pw B w D P n l) (e : Ext w w') : Pw B w' D P n l := h.chg (Chg.ext (B := 0) (T := []) e (Nat.zero_le _)) (by simp)
theorem Pw.of {B B' : Nat} {w w' : World} {D P : Nat} {n : Cn} {l : List (BitVec 8)} (h : Pw B w D P n l) (hd : Dsk B w' D P n.C) (e : Chg B' [140, 124] w w') : Pw B w' D P n l := by
  obtain ⟨h1, ⟨A1, A2, pv, c, d⟩⟩ := h
  exact ⟨hd, ⟨A1, A2, pv, c.chg e (by decide) (by decide) (by decide), d.chg e (by decide)⟩⟩
theorem OwnB.ext0 {w w' : World} {bb : Nat} {v : Value} {l : List (BitVec 8)} (h : OwnB w bb v l) (e : Ext w w') : OwnB w' bb v l := ownsRow_chg (Chg.ext (B := 0) (T := []) e (Nat.zero_le _)) h (by simp)
set_option maxHeartbeats 1000000 in
theorem write1_any (B M S c gA gB bb : Nat) (A : Array Value) (v : Value) (l : List (BitVec 8)) (hll : l.length ≤ 64) (w : World) (h : Med B w M S c A) (hB : B ≤ w.heap.size) (hA : BoxAt w gA #[.int .i64 60] 3) (hV : BoxAt w gB #[v] 47) (ho : OwnB w bb v l) :
    Calls Tryz.prog 250 #[.pointer (some ⟨M, 0, none⟩), .pointer (some ⟨gA, 0, none⟩), .pointer (some ⟨gB, 0, none⟩)] w fun e w' => e = .returned (.int .i64 0) ∧ (∃ A', Wrt l A' w' ∧ Med B w' M S c A') ∧ Sct B S w w' := by
  have HM := Lib.hid h
  have HO := Lib.hid (OwnB.slice ho)
  obtain ⟨va, vc, rfl⟩ := own_shape ho
  have c0 := hA.cell 0 (v := .int .i64 60) rfl
  have hl := hA.lt
  have c1 := hV.cell 0 rfl
  have hl1 := hV.lt
  clear h hA hV ho
  go_enter Tryz.func250, Tryz.ntmps250
  go_wp2_with (go_at_call 251; refine (mwrite_any B M S c A (.slice va l.length vc) l hll _ HM.out HO.out hB).mono ?_; rintro e W1 ⟨rfl, ⟨A', v', h1, h2, h3, h4⟩, h5⟩; have H3 := Lib.hid (show Wrt l A' W1 from ⟨v', _, h1, h2, h4⟩); have H4 := Lib.hid h3; have H5 := Lib.hid h5; clear h1 h2 h3 h4 h5)
  go_ret
  exact ⟨rfl, ⟨A', H3.out, H4.out⟩, H5.out⟩
set_option maxHeartbeats 4000000 in
theorem cwrite_any (B bb : Nat) (n : Cn) (A1 A2 : Array Value) (pv v : Value) (ops : List Value) (l : List (BitVec 8)) (hll : l.length ≤ 64) (hlo : ops.length ≤ 1000) (w : World) (h : Csh B w n A1 A2 pv) (ho : OwnO w B pv ops) (hBw : B ≤ w.heap.size) (hv : OwnB w bb v l) :
    Calls Tryz.prog 223 #[.pointer (some ⟨n.C, 0, none⟩), .int .i64 60, v] w fun e w' => e = .returned (.int .i64 0) ∧
      (∃ A2' pv', Wrt l A2' w' ∧ Csh B w' n A1 A2' pv') ∧ Chg B [270, 208, 310] w w' := by
  obtain ⟨va, vc, rfl⟩ := own_shape hv
  obtain ⟨k, hk⟩ : ∃ k, l.length = k := ⟨_, rfl⟩
  have hx := (Ext.alloc w (.cells #[.int .i64 60] 3)).trans (Ext.alloc _ (.cells #[.slice va l.length vc] 47))
  have hbA := (BoxAt.new w #[.int .i64 60] 3).ext (Ext.alloc _ (.cells #[.slice va l.length vc] 47))
  have hbV := BoxAt.new (w.alloc (.cells #[.int .i64 60] 3)) #[.slice va l.length vc] 47
  rw [World.size_alloc] at hbV
  have hz := hx.size
  rw [hk] at hx hbA hbV hz
  have HX := Lib.hid hx
  have HBA := Lib.hid hbA
  have HBV := Lib.hid hbV
  have HC := Lib.hid h
  have HO := Lib.hid ho
  have HV := Lib.hid (OwnB.ext0 hv hx)
  have HZ := Lib.hid hz
  have HK := Lib.hid hk
  clear hx hbA hbV h ho hv hz hk
  have HK2 := HK.out
  rw [HK.out] at HV
  go_enter Tryz.func223, Tryz.ntmps223
  rw [HK.out]
  go_wp2_with first | (go_at_call 122; refine (clone_any (.slice va k vc) l _ (by omega) (OwnB.slice HV.out)).mono ?_; rintro e W3 ⟨v', rfl, hO3, hx3⟩; obtain ⟨va3, vc3, rfl⟩ := own_shape hO3; rw [HK.out] at hO3 ⊢; have HO3 := Lib.hid hO3; have HB3 := Lib.hid (HBV.out.ext hx3); have HA3 := Lib.hid (HBA.out.ext hx3); have HX3 := Lib.hid (HX.out.trans hx3); have lb3 := HB3.out.lt; have fb3 := HB3.out.cell 0 (v := .slice va k vc) rfl; clear hO3 hx3) | (refine wpList_store_cell 47 _ _ rfl (by rfl) rfl rfl (HB3.out) (by simp) (by kernel_rfl) rfl ?_; intro W4 hS; have HS := Lib.hid hS; have HX4 := Lib.hid (show Ext w W4 from hS.bel HX3.out (Nat.le_succ _)); have HO4 := Lib.hid (ownsRow_chg ((Chg.refl 0 [47] W3).stored HB3.out hS (by simp) (Nat.zero_le _)) HO3.out (by decide)); have HA4 := Lib.hid (hS.keep HA3.out (by omega)); clear hS fb3 lb3) | (go_at_call 163; refine (do_any 250 (enters_of Tryz.func250 (by kernel_rfl) rfl) #[.pointer (some ⟨w.heap.size, 0, none⟩), .pointer (some ⟨w.heap.size + 1, 0, none⟩)] B n A1 A2 pv ops hlo _ (HC.out.ext HX4.out) (ownsRow_chg (Chg.ext (B := 0) (T := []) HX4.out (Nat.zero_le _)) HO.out (by simp)) (Nat.le_trans hBw HX4.out.size) (fun A w => Wrt l A w) (fun A a b h e => h.chg e (by decide)) (write1_any B n.M2 n.S2 n.c2 w.heap.size (w.heap.size + 1) _ A2 _ l hll _ (HC.out.m2.ext HX4.out) (Nat.le_trans hBw HX4.out.size) HA4.out HS.out.box HO4.out)).mono ?_; rintro e W5 ⟨rfl, ⟨A2', pv', h1, h2, h3⟩, h4⟩; have H1 := Lib.hid h1; have H2 := Lib.hid h2; have H4 := Lib.hid h4; clear h1 h2 h3 h4)
  go_ret
  exact ⟨rfl, ⟨A2', pv', H1.out, H2.out⟩, (Chg.ext HX4.out hBw).trans H4.out⟩
end Go.Proofs.YtjabgpejmnpamaaGreatDoor

namespace Go.Proofs.YtjabgpejmnpamaaGreatDoor
open Go.RowKit Go.Shelf
set_option maxRecDepth 100000
set_option maxHeartbeats 1000000 in
theorem dhas_any (B D P C : Nat) (w : World) (h : Dsk B w D P C) :
    Calls Tryz.prog 222 #[.pointer (some ⟨D, 0, none⟩), .int .i64 60] w fun e w' => e = .returned (.bool true) ∧ Ext w w' := by
  obtain ⟨⟨r, wr, er, f, o, h1⟩, ⟨l, h2⟩, _, _⟩ := h
  have c5 := h1.cell 5 (v := .int .i64 60) rfl
  have c6 := h1.cell 6 (v := .int .i64 5) rfl
  have c7 := h1.cell 7 (v := .int .i64 2) rfl
  have c8 := h1.cell 8 (v := .int .i64 3) rfl
  have c9 := h1.cell 9 (v := .int .i64 1) rfl
  have hl := h1.lt
  clear h1 h2
  go_enter Tryz.func222, Tryz.ntmps222
  go_wp2_with (go_at_call 106; refine (ssize_any _).mono ?_; rintro e W1 ⟨rfl, hx1⟩)
  go_ret
  exact ⟨rfl, hx1⟩
set_option maxHeartbeats 4000000 in
theorem dwrite1_any (B D P gD gA gV gF bb : Nat) (n : Cn) (v : Value) (l : List (BitVec 8)) (hll : l.length ≤ 64) (w : World) (h : Ph B w D P n []) (hBw : B ≤ w.heap.size) (hD : BoxAt w gD #[.pointer (some ⟨D, 0, none⟩)] 68) (hA : BoxAt w gA #[.int .i64 60] 3) (hV : BoxAt w gV #[v] 47) (hF : BoxAt w gF #[.bool false] 4) (hv : OwnB w bb v l) :
    Calls Tryz.prog 221 #[fltV, .pointer (some ⟨gD, 0, none⟩), .pointer (some ⟨gA, 0, none⟩), .pointer (some ⟨gV, 0, none⟩), .pointer (some ⟨gF, 0, none⟩)] w fun e w' => e = .returned (.int .i64 0) ∧ Pw B w' D P n l ∧ Chg B TTd w w' := by
  obtain ⟨va, vc, rfl⟩ := own_shape hv
  obtain ⟨k, hk⟩ : ∃ k, l.length = k := ⟨_, rfl⟩
  rw [hk] at hv hV
  have hk64 : (k : Int) ≤ 64 := by omega
  obtain ⟨hd, ⟨A1, A2, pv, ha1, ha2, hc, ho⟩, hb⟩ := h
  have hx : Ext w (w.alloc (.cells #[.int .i64 0, .int .i64 0, .int .i64 0] 134)) := Ext.alloc _ _
  have HX := Lib.hid hx
  have HFl := Lib.hid (BoxAt.new w #[.int .i64 0, .int .i64 0, .int .i64 0] 134)
  have HD := Lib.hid (hD.ext hx)
  have HA := Lib.hid (hA.ext hx)
  have HV := Lib.hid (hV.ext hx)
  have HF := Lib.hid (hF.ext hx)
  have HO := Lib.hid (OwnB.ext0 hv hx)
  have HDk := Lib.hid (hd.ext hx)
  have HC := Lib.hid (hc.ext hx)
  have HOp := Lib.hid (ownsRow_chg (Chg.ext (B := 0) (T := []) hx (Nat.zero_le _)) ho (by simp))
  have HK := Lib.hid hk
  have b0 := hD.cell 0 (v := .pointer (some ⟨D, 0, none⟩)) rfl
  have b1 := hA.cell 0 (v := .int .i64 60) rfl
  have lb0 := hD.lt
  have lb1 := hA.lt
  clear hx hD hA hV hF hv hd hc ho hb ha1 ha2
  go_enter Tryz.func221, Tryz.ntmps221
  go_wp2_with (go_at_call 222; refine (dhas_any B D P n.C _ HDk.out).mono ?_; rintro e W1 ⟨rfl, hx1⟩; have HX1 := Lib.hid (HX.out.trans hx1); have HXA := Lib.hid hx1; have hDk1 := HDk.out.ext hx1; obtain ⟨r, wr, er, f, o, l2, hd1, hp1⟩ := hDk1.cells; have c0 := (HD.out.ext hx1).cell 0 (v := .pointer (some ⟨D, 0, none⟩)) rfl; have lc0 := (HD.out.ext hx1).lt; have c1 := (HA.out.ext hx1).cell 0 (v := .int .i64 60) rfl; have lc1 := (HA.out.ext hx1).lt; have c2 := (HV.out.ext hx1).cell 0 (v := .slice va k vc) rfl; have lc2 := (HV.out.ext hx1).lt; have c3 := (HF.out.ext hx1).cell 0 (v := .bool false) rfl; have lc3 := (HF.out.ext hx1).lt; have c4 := (HFl.out.ext hx1).cell 1 (v := .int .i64 0) rfl; have lc4 := (HFl.out.ext hx1).lt; have c5 := hd1.cell 10 (v := .pointer (some ⟨n.C, 0, none⟩)) rfl; have lc5 := hd1.lt; have HD1 := Lib.hid hd1; have HP1 := Lib.hid hp1; have HF1 := Lib.hid (HF.out.ext hx1); have HDB := Lib.hid (HD.out.ext hx1); clear hx1 hDk1 hd1 hp1 b0 b1 lb0 lb1)
  refine wp_region_ext [(0, true), (1, true), (2, true), (3, true)] (by kernel_rfl) (by kernel_rfl) ?_
  iterate 4 ((first
   | refine ext_move rfl rfl (by rfl) (by rfl) ?_
   | refine ext_assign rfl rfl (by rfl) (by rfl) ?_
   | refine ext_pick_t rfl rfl (by rfl) (by rfl) (by rfl) ?_
   | refine ext_pick_f rfl rfl (by rfl) (by rfl) (by rfl) ?_
   | (apply ext_take rfl (by rfl)
      · intro w' hS
        have hSc := hS.cells
        (try simp only [World.size_drew, World.cell?_drew] at hSc)
        go_simp
        (try simp (disch := omega) only [i64_id, u64_id, ↓IntWalk.iteOmega, Int.tdiv_eq_ediv_of_nonneg, Int.tmod_eq_emod_of_nonneg])
        try rfl)
   | refine ext_pass rfl (by rfl) ?_); simp only [Act.put, setZa, setZ0, setZ1])
  refine ext_nil ?_
  have HX2 := Lib.hid (HX1.out.trans (Ext.drew W1))
  have HXB := Lib.hid (HXA.out.trans (Ext.drew W1))
  go_wp2_with first | (go_at_call 223; go_loud (refine (cwrite_any B bb n A1 A2 pv (.slice va k vc) ([].map opE) l hll (by simp) _ (HC.out.ext HXB.out) (ownsRow_chg (Chg.ext (B := 0) (T := []) HXB.out (Nat.zero_le _)) HOp.out (by simp)) (Nat.le_trans hBw HX2.out.size) (OwnB.ext0 HO.out HXB.out)).mono ?_); rintro e W3 ⟨rfl, ⟨A2', pv', h1, h2⟩, h3⟩; have H1 := Lib.hid h1; have H2 := Lib.hid h2; have H3 := Lib.hid h3; have hd3 := (HD1.out.ext (Ext.drew W1)).chg h3 (by decide); have HD3 := Lib.hid hd3; have hb3 := (HDB.out.ext (Ext.drew W1)).chg h3 (by decide); have e0 := hb3.cell 0 (v := .pointer (some ⟨D, 0, none⟩)) rfl; have le0 := hb3.lt; have e1 := hd3.cell 1 (v := .int .i64 wr) rfl; have le1 := hd3.lt; have hf3 := (HF1.out.ext (Ext.drew W1)).chg h3 (by decide); have e2 := hf3.cell 0 (v := .bool false) rfl; have le2 := hf3.lt; clear h1 h2 h3 hd3 hb3 hf3 c0 c1 c2 c3 c4 c5 lc0 lc1 lc2 lc3 lc4 lc5) | (refine wpList_store_cell 3 _ _ rfl (by rfl) rfl rfl (HD3.out) (by simp) (by kernel_rfl) rfl ?_; intro W4 hS; have HS4 := Lib.hid hS; clear hS e0 le0 e1 le1 e2 le2)
  go_ret
  have hcs : Chg B [140] W3 W4 := (Chg.refl _ _ _).stored HD3.out HS4.out (by simp) HDk.out.geD
  refine ⟨rfl, ⟨⟨⟨_, _, _, _, _, HS4.out.box⟩, ⟨_, ((HP1.out.ext (Ext.drew W1)).chg H3.out (by decide)).chg hcs (by decide)⟩, HDk.out.geD, HDk.out.geP⟩, ⟨A1, A2', pv', H2.out.chg hcs (by decide) (by decide) (by decide), H1.out.chg hcs (by decide)⟩⟩, (Chg.ext HX2.out hBw).trans ((H3.out.wide (by decide)).trans (hcs.wide (by decide)))⟩
abbrev wrW (w : World) (D : Nat) (v : Value) : World := (((w.alloc (.cells #[.pointer (some ⟨D, 0, none⟩)] 68)).alloc (.cells #[.int .i64 60] 3)).alloc (.cells #[v] 47)).alloc (.cells #[.bool false] 4)
theorem wrW_ext (w : World) (D : Nat) (v : Value) : Ext w (wrW w D v) := ((((Ext.alloc _ _).trans (Ext.alloc _ _)).trans (Ext.alloc _ _)).trans (Ext.alloc _ _))
theorem wrW_0 (w : World) (D : Nat) (v : Value) : BoxAt (wrW w D v) w.heap.size #[.pointer (some ⟨D, 0, none⟩)] 68 := (BoxAt.new w _ _).ext (((Ext.alloc _ _).trans (Ext.alloc _ _)).trans (Ext.alloc _ _))
theorem wrW_1 (w : World) (D : Nat) (v : Value) : BoxAt (wrW w D v) (w.heap.size + 1) #[.int .i64 60] 3 := by
  have h := (BoxAt.new (w.alloc (.cells #[.pointer (some ⟨D, 0, none⟩)] 68)) #[.int .i64 60] 3).ext ((Ext.alloc _ (.cells #[v] 47)).trans (Ext.alloc _ (.cells #[.bool false] 4)))
  rwa [World.size_alloc] at h
theorem wrW_2 (w : World) (D : Nat) (v : Value) : BoxAt (wrW w D v) (w.heap.size + 2) #[v] 47 := by
  have h := (BoxAt.new ((w.alloc (.cells #[.pointer (some ⟨D, 0, none⟩)] 68)).alloc (.cells #[.int .i64 60] 3)) #[v] 47).ext (Ext.alloc _ (.cells #[.bool false] 4))
  rwa [World.size_alloc, World.size_alloc] at h
theorem wrW_3 (w : World) (D : Nat) (v : Value) : BoxAt (wrW w D v) (w.heap.size + 3) #[.bool false] 4 := by
  have h := BoxAt.new (((w.alloc (.cells #[.pointer (some ⟨D, 0, none⟩)] 68)).alloc (.cells #[.int .i64 60] 3)).alloc (.cells #[v] 47)) #[.bool false] 4
  rwa [World.size_alloc, World.size_alloc, World.size_alloc] at h
set_option maxHeartbeats 4000000 in
theorem dwrite_any (B D P bb : Nat) (n : Cn) (v : Value) (l : List (BitVec 8)) (hll : l.length ≤ 64) (w : World) (h : Ph B w D P n []) (hBw : B ≤ w.heap.size) (hv : OwnB w bb v l) :
    Calls Tryz.prog 181 #[.pointer (some ⟨D, 0, none⟩), .int .u64 0, .int .i64 60, v, .bool false] w fun e w' => e = .returned (.int .i64 0) ∧ Pw B w' D P n l ∧ Chg B TTd w w' := by
  obtain ⟨va, vc, hvv⟩ := own_shape hv
  obtain ⟨k, hk⟩ : ∃ k, l.length = k := ⟨_, rfl⟩
  rw [hk] at hvv
  subst hvv
  have HX1 := Lib.hid (wrW_ext w D (.slice va k vc))
  have HP := Lib.hid (h.ext HX1.out)
  have HV := Lib.hid (OwnB.ext0 hv HX1.out)
  have HZ := Lib.hid HX1.out.size
  clear h hv hk
  go_enter Tryz.func181, Tryz.ntmps181
  go_wp2_with (go_at_call 111; go_loud (refine (perform_any 221 (enters_of Tryz.func221 (by kernel_rfl) rfl) #[.pointer (some ⟨w.heap.size, 0, none⟩), .pointer (some ⟨w.heap.size + 1, 0, none⟩), .pointer (some ⟨w.heap.size + 2, 0, none⟩), .pointer (some ⟨w.heap.size + 3, 0, none⟩)] B D P n.C _ HP.out.dsk (Nat.le_trans hBw HZ.out) (fun w' => Pw B w' D P n l ∧ Chg B TTd w w') (fun w1 hd1 hc1 => (dwrite1_any B D P w.heap.size (w.heap.size + 1) (w.heap.size + 2) (w.heap.size + 3) bb n (.slice va k vc) l hll w1 (HP.out.of hd1 hc1) (Nat.le_trans hBw (Nat.le_trans HZ.out hc1.size)) ((wrW_0 w D (.slice va k vc)).chg hc1 (by decide)) ((wrW_1 w D (.slice va k vc)).chg hc1 (by decide)) ((wrW_2 w D (.slice va k vc)).chg hc1 (by decide)) ((wrW_3 w D (.slice va k vc)).chg hc1 (by decide)) (ownsRow_chg hc1 HV.out (by decide))).mono (fun e w' hp => ⟨hp.1, hp.2.1, (Chg.ext HX1.out hBw).trans ((hc1.wide (by decide)).trans hp.2.2)⟩))).mono ?_); rintro e W3 ⟨rfl, hR⟩; have HR := Lib.hid hR; clear hR)
  go_ret
  exact ⟨rfl, HR.out⟩
end Go.Proofs.YtjabgpejmnpamaaGreatDoor

namespace Go.Proofs.YtjabgpejmnpamaaGreatDoor
open Go.RowKit Go.Shelf
set_option maxRecDepth 100000
structure Chx (B : Nat) (T : List TypeId) (x : Nat) (w w' : World) : Prop where
  bel : Below B w w'
  box : ∀ k cs t, k ≠ x → BoxAt w k cs t → t ∉ T → BoxAt w' k cs t
theorem Chg.chx {B : Nat} {T : List TypeId} {w w' : World} (h : Chg B T w w') (x : Nat) : Chx B T x w w' := ⟨h.bel, fun k cs t _ => h.box k cs t⟩
theorem Chx.trans {B x : Nat} {T : List TypeId} {a b c : World} (h : Chx B T x a b) (k : Chx B T x b c) : Chx B T x a c := ⟨h.bel.trans k.bel, fun g cs t hg hb ht => k.box g cs t hg (h.box g cs t hg hb ht) ht⟩
theorem Stored.chx {B g : Nat} {T : List TypeId} {cells : Array Value} {t : TypeId} {a b : World} (h : Stored a b g cells t) (hg : B ≤ g) : Chx B T g a b := ⟨h.bel (Below.refl _ _) hg, fun k cs t' hk hb _ => h.keep hb hk⟩
theorem Chx.fresh {B x : Nat} {T : List TypeId} {a b c : World} (h : Chg B T a b) (k : Chx B T x b c) (hx : a.heap.size ≤ x) : Chg B T a c := ⟨h.bel.trans k.bel, fun g cs t hb ht => k.box g cs t (by have := hb.lt; omega) (h.box g cs t hb ht) ht⟩
set_option maxHeartbeats 1000000 in
theorem cread_any (B : Nat) (n : Cn) (A1 A2 : Array Value) (pv : Value) (l : List (BitVec 8)) (hll : l.length ≤ 64) (w : World) (h : Csh B w n A1 A2 pv) (hw : Wrt l A2 w) :
    Calls Tryz.prog 226 #[.pointer (some ⟨n.C, 0, none⟩), .int .i64 60] w fun e w' => ∃ v', e = .returned (.tuple #[v', .int .i64 0]) ∧ OwnB w' w.heap.size v' l ∧ Ext w w' := by
  obtain ⟨v, bb, h1, h2, h3⟩ := hw
  have HM := Lib.hid h.m2
  have HO := Lib.hid h3
  have H1 := Lib.hid h1
  have H2 := Lib.hid h2
  have c1 := h.box.cell 1 (v := .pointer (some ⟨n.M2, 0, none⟩)) rfl
  have hl := h.box.lt
  clear h h1 h2 h3
  go_enter Tryz.func226, Tryz.ntmps226
  go_wp2_with (go_at_call 252; refine (mread_any B bb n.M2 n.S2 n.c2 A2 v l hll _ HM.out H1.out H2.out HO.out).mono ?_; rintro e W1 ⟨v', rfl, hO1, hx1⟩; have HO1 := Lib.hid hO1; have HX1 := Lib.hid hx1; clear hO1 hx1)
  go_ret2
  exact ⟨v', rfl, HO1.out, HX1.out⟩
set_option maxHeartbeats 4000000 in
theorem dread1_any (B D P gD gA gO : Nat) (x0 : Value) (n : Cn) (l : List (BitVec 8)) (hll : l.length ≤ 64) (w : World) (h : Pw B w D P n l) (hBw : B ≤ w.heap.size) (hD : BoxAt w gD #[.pointer (some ⟨D, 0, none⟩)] 68) (hA : BoxAt w gA #[.int .i64 60] 3) (hO : BoxAt w gO #[x0] 47) (hgO : B ≤ gO) :
    Calls Tryz.prog 225 #[fltV, .pointer (some ⟨gD, 0, none⟩), .pointer (some ⟨gA, 0, none⟩), .pointer (some ⟨gO, 0, none⟩)] w fun e w' => e = .returned (.int .i64 0) ∧ Pw B w' D P n l ∧ (∃ v' bb', BoxAt w' gO #[v'] 47 ∧ OwnB w' bb' v' l) ∧ Chx B TTd gO w w' := by
  obtain ⟨hd, ⟨A1, A2, pv, hc, hwr⟩⟩ := h
  have hx : Ext w (w.alloc (.cells #[.int .i64 0, .int .i64 0, .int .i64 0] 134)) := Ext.alloc _ _
  have HX := Lib.hid hx
  have HFl := Lib.hid (BoxAt.new w #[.int .i64 0, .int .i64 0, .int .i64 0] 134)
  have HD := Lib.hid (hD.ext hx)
  have HA := Lib.hid (hA.ext hx)
  have HO := Lib.hid (hO.ext hx)
  have HDk := Lib.hid (hd.ext hx)
  have HC := Lib.hid (hc.ext hx)
  have HW := Lib.hid (hwr.chg (Chg.ext (B := 0) (T := []) hx (Nat.zero_le _)) (by simp))
  have b0 := hD.cell 0 (v := .pointer (some ⟨D, 0, none⟩)) rfl
  have b1 := hA.cell 0 (v := .int .i64 60) rfl
  have lb0 := hD.lt
  have lb1 := hA.lt
  clear hx hD hA hO hd hc hwr
  go_enter Tryz.func225, Tryz.ntmps225
  go_wp2_with first | (go_at_call 222; refine (dhas_any B D P n.C _ HDk.out).mono ?_; rintro e W1 ⟨rfl, hx1⟩; have HX1 := Lib.hid (HX.out.trans hx1); have HXA := Lib.hid hx1; have hDk1 := HDk.out.ext hx1; obtain ⟨r, wr, er, f, o, l2, hd1, hp1⟩ := hDk1.cells; have c0 := (HD.out.ext hx1).cell 0 (v := .pointer (some ⟨D, 0, none⟩)) rfl; have lc0 := (HD.out.ext hx1).lt; have c1 := (HA.out.ext hx1).cell 0 (v := .int .i64 60) rfl; have lc1 := (HA.out.ext hx1).lt; have c4 := (HFl.out.ext hx1).cell 1 (v := .int .i64 0) rfl; have lc4 := (HFl.out.ext hx1).lt; have c5 := hd1.cell 10 (v := .pointer (some ⟨n.C, 0, none⟩)) rfl; have lc5 := hd1.lt; have HD1 := Lib.hid hd1; have HP1 := Lib.hid hp1; have HDB := Lib.hid (HD.out.ext hx1); have HOB := Lib.hid (HO.out.ext hx1); have HC1 := Lib.hid (HC.out.ext hx1); have HW1 := Lib.hid (HW.out.chg (Chg.ext (B := 0) (T := []) hx1 (Nat.zero_le _)) (by simp)); clear hx1 hDk1 hd1 hp1 b0 b1 lb0 lb1) | (go_at_call 226; refine (cread_any B n A1 A2 pv l hll _ HC1.out HW1.out).mono ?_; rintro e W2 ⟨v', rfl, hO2, hx2⟩; obtain ⟨va, vc, rfl⟩ := own_shape hO2; have HO2 := Lib.hid hO2; have HX2 := Lib.hid hx2; have HOB2 := Lib.hid (HOB.out.ext hx2); have lo2 := HOB2.out.lt; have co2 := HOB2.out.cell 0 (v := x0) rfl; have HDB2 := Lib.hid (HDB.out.ext hx2); have d0 := HDB2.out.cell 0 (v := .pointer (some ⟨D, 0, none⟩)) rfl; have ld0 := HDB2.out.lt; have HD2 := Lib.hid (HD1.out.ext hx2); have d1 := HD2.out.cell 0 (v := .int .i64 r) rfl; have ld1 := HD2.out.lt; clear hO2 hx2 c0 c1 c4 c5 lc0 lc1 lc4 lc5) | (refine wpList_store_cell 47 _ _ rfl (by rfl) rfl rfl (HOB2.out) (by simp) (by kernel_rfl) rfl ?_; intro W3 hS; have HS3 := Lib.hid hS; have HDB3 := Lib.hid (hS.keep HDB2.out (box_ne HDB2.out HOB2.out (by decide))); have HD3 := Lib.hid (hS.keep HD2.out (box_ne HD2.out HOB2.out (by decide))); have e0 := HDB3.out.cell 0 (v := .pointer (some ⟨D, 0, none⟩)) rfl; have le0 := HDB3.out.lt; have e1 := HD3.out.cell 0 (v := .int .i64 r) rfl; have le1 := HD3.out.lt; clear hS d0 d1 ld0 ld1 lo2 co2) | (refine wpList_store_cell 3 _ _ rfl (by rfl) rfl rfl (HD3.out) (by simp) (by kernel_rfl) rfl ?_; intro W4 hS; have HS4 := Lib.hid hS; clear hS e0 le0 e1 le1)
  go_ret
  have hc1 : Chg B TTd w W2 := (Chg.ext HX1.out hBw).more HX2.out hBw
  have hc3 : Chg B [47] W2 W3 := (Chg.refl _ _ _).stored HOB2.out HS3.out (by simp) hgO
  have hcs : Chg B [140] W3 W4 := (Chg.refl _ _ _).stored HD3.out HS4.out (by simp) HDk.out.geD
  have h0 : Chg 0 [] W1 W2 := Chg.ext HX2.out (Nat.zero_le _)
  refine ⟨rfl, ⟨⟨⟨_, _, _, _, _, HS4.out.box⟩, ⟨_, ((HP1.out.ext HX2.out).chg hc3 (by decide)).chg hcs (by decide)⟩, HDk.out.geD, HDk.out.geP⟩, ⟨A1, A2, pv, ((HC1.out.ext HX2.out).chg hc3 (by decide) (by decide) (by decide)).chg hcs (by decide) (by decide) (by decide), ((HW1.out.chg h0 (by simp)).chg hc3 (by decide)).chg hcs (by decide)⟩⟩, ⟨_, _, HS4.out.keep HS3.out.box (box_ne HS3.out.box HD3.out (by decide)), ownsRow_chg hcs (ownsRow_chg hc3 HO2.out (by decide)) (by decide)⟩, ?_⟩
  exact ((hc1.chx gO).trans (HS3.out.chx hgO)).trans ((hcs.wide (by decide)).chx gO)
abbrev rdW (w : World) (D : Nat) : World := ((w.alloc (.cells #[.pointer (some ⟨D, 0, none⟩)] 68)).alloc (.cells #[.int .i64 60] 3)).alloc (.cells #[.slice none 0 0] 47)
theorem rdW_ext (w : World) (D : Nat) : Ext w (rdW w D) := ((Ext.alloc _ _).trans (Ext.alloc _ _)).trans (Ext.alloc _ _)
theorem rdW_0 (w : World) (D : Nat) : BoxAt (rdW w D) w.heap.size #[.pointer (some ⟨D, 0, none⟩)] 68 := (BoxAt.new w _ _).ext ((Ext.alloc _ _).trans (Ext.alloc _ _))
theorem rdW_1 (w : World) (D : Nat) : BoxAt (rdW w D) (w.heap.size + 1) #[.int .i64 60] 3 := by
  have h := (BoxAt.new (w.alloc (.cells #[.pointer (some ⟨D, 0, none⟩)] 68)) #[.int .i64 60] 3).ext (Ext.alloc _ (.cells #[.slice none 0 0] 47))
  rwa [World.size_alloc] at h
theorem rdW_2 (w : World) (D : Nat) : BoxAt (rdW w D) (w.heap.size + 2) #[.slice none 0 0] 47 := by
  have h := BoxAt.new ((w.alloc (.cells #[.pointer (some ⟨D, 0, none⟩)] 68)).alloc (.cells #[.int .i64 60] 3)) #[.slice none 0 0] 47
  rwa [World.size_alloc, World.size_alloc] at h
set_option maxHeartbeats 4000000 in
theorem dread_any (B D P : Nat) (n : Cn) (l : List (BitVec 8)) (hll : l.length ≤ 64) (w : World) (h : Pw B w D P n l) (hBw : B ≤ w.heap.size) :
    Calls Tryz.prog 184 #[.pointer (some ⟨D, 0, none⟩), .int .u64 0, .int .i64 60] w fun e w' => ∃ v' bb', e = .returned (.tuple #[v', .int .i64 0]) ∧ Pw B w' D P n l ∧ OwnB w' bb' v' l ∧ Chg B TTd w w' := by
  have HX1 := Lib.hid (rdW_ext w D)
  have HP := Lib.hid (h.ext HX1.out)
  have HZ := Lib.hid HX1.out.size
  clear h
  go_enter Tryz.func184, Tryz.ntmps184
  go_wp2_with (go_at_call 111; go_loud (refine (perform_any 225 (enters_of Tryz.func225 (by kernel_rfl) rfl) #[.pointer (some ⟨w.heap.size, 0, none⟩), .pointer (some ⟨w.heap.size + 1, 0, none⟩), .pointer (some ⟨w.heap.size + 2, 0, none⟩)] B D P n.C _ HP.out.dsk (Nat.le_trans hBw HZ.out) (fun w' => Pw B w' D P n l ∧ (∃ v' bb', BoxAt w' (w.heap.size + 2) #[v'] 47 ∧ OwnB w' bb' v' l) ∧ Chg B TTd w w') (fun w1 hd1 hc1 => (dread1_any B D P w.heap.size (w.heap.size + 1) (w.heap.size + 2) (.slice none 0 0) n l hll w1 (HP.out.of hd1 hc1) (Nat.le_trans hBw (Nat.le_trans HZ.out hc1.size)) ((rdW_0 w D).chg hc1 (by decide)) ((rdW_1 w D).chg hc1 (by decide)) ((rdW_2 w D).chg hc1 (by decide)) (by omega)).mono (fun e w' hp => ⟨hp.1, hp.2.1, hp.2.2.1, Chx.fresh ((Chg.ext HX1.out hBw).trans (hc1.wide (by decide))) hp.2.2.2 (by omega)⟩))).mono ?_); rintro e W3 ⟨rfl, hR, ⟨v', bb', hR2, hR3⟩, hR4⟩; obtain ⟨va, vc, rfl⟩ := own_shape hR3; have HR := Lib.hid hR; have HR3 := Lib.hid hR3; have HR4 := Lib.hid hR4; have d0 := hR2.cell 0 rfl; have ld := hR2.lt; clear hR hR2 hR3 hR4)
  go_ret2
  exact ⟨_, bb', rfl, HR.out, HR3.out, HR4.out⟩
end Go.Proofs.YtjabgpejmnpamaaGreatDoor
