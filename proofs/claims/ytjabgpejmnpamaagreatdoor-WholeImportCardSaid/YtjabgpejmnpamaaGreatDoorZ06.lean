/-
  Part 6 of the proof: Package design: Check, at the five sets of four disks. Package layout: measure, at the design of the five sets. Package layout: measure, at the design of the five sets: the walk. Package layout: Groups, Data and Slots, at the design of the five sets Arrays of bytes compared. No program is named here. tegulatop.awake25: groups are encoded and decoded, and a layout is bal The disk layers: what changes only blocks of listed types. Package geometry: contracts (from the texts of chapter 10).
-/
import Derived.Test.YtjabgpejmnpamaaGreatDoorZ05
import Derived.Test.YtjabgpejmnpamaaGreatDoorZ01
import Derived.Stop.BytesEq
import Derived.Test.YtjabgpejmnpamaaGreatDoorRows
import Derived.WalkKit
import Derived.ProofKit
import Derived.WalkSpells
import Derived.WalkLawsBesides
import Derived.Lib.Hide
import Derived.Deep.RegionHeld3
import Derived.Deep.DrawnRows
set_option linter.unusedVariables false
namespace Go.Proofs.YtjabgpejmnpamaaGreatDoor
open Go.RowKit
set_option maxRecDepth 100000
theorem run_alloc_agg {P : Program} {e : TypeId} {i : TypeInfo} {cells : Array Value} (hi : P.info? e = some i) (hz : i.zero = some (.agg cells)) (w : World) :
    (Instr.alloc e true (.tuple #[])).run P w = .ok (.pointer (some ⟨w.heap.size, 0, none⟩)) (w.alloc (.cells cells e)) := by
  simp [Instr.alloc, zeroValue, typeInfo, newVar, newRow, hi, hz, go_sem]
theorem wpList_alloc_zero {P : Program} {ops : Array Oper} {rest : List Oper} {o : Oper} {a : Act} {w : World} {Q : Exit → Act → World → Prop} (e : TypeId) (ho : o.op = .alloc e) (hw : Region.wanted o (yielded ops a.tmps) = true) {i : TypeInfo} {cells : Array Value} (hi : P.info? e = some i) (hz : i.zero = some (.agg cells))
    (h : wpList P ops Q rest (a.put o.dst (.pointer (some ⟨w.heap.size, 0, none⟩))) (w.alloc (.cells cells e))) : wpList P ops Q (o :: rest) a w := by
  refine wpList_step fun K hK => ?_
  rw [if_pos hw]
  unfold Oper.wp execOp
  simp only [ho, Sem.run_bind, Sem.run_pure, Result.andThen_ok, run_alloc_agg hi hz]
  exact hK _ _ h
theorem info_tab : (Tryz.prog.info? 327).map (·.zero) = some (some (.agg (Array.replicate 3600 (.int .i64 0)))) := by kernel_rfl
def eln (k i : Nat) : Nat := (el k i).toNat
theorem eln_cast {k i : Nat} (hk : k < 5) (hi : i < 4) : el k i = ((eln k i : Nat) : Int) := by
  have := (el_range k hk i hi).1
  unfold eln
  omega
theorem eln_lt {k i : Nat} (hk : k < 5) (hi : i < 4) : eln k i < 5 := by
  have := el_range k hk i hi
  unfold eln
  omega
def doneP (k i j : Nat) : List Nat := (List.range k).flatMap (fun k' => (List.range 4).flatMap fun i' => (List.range 4).map fun j' => eln k' i' * 60 + eln k' j') ++ ((List.range i).flatMap (fun i' => (List.range 4).map fun j' => eln k i' * 60 + eln k j') ++ (List.range j).map fun j' => eln k i * 60 + eln k j')
theorem done_j (k i j : Nat) : doneP k i (j + 1) = doneP k i j ++ [eln k i * 60 + eln k j] := by
  unfold doneP
  rw [List.range_succ (n := j), List.map_append]
  simp [List.append_assoc]
theorem done_i (k i : Nat) : doneP k (i + 1) 0 = doneP k i 4 := by
  unfold doneP
  rw [List.range_succ (n := i), List.flatMap_append]
  simp
theorem done_k (k : Nat) : doneP (k + 1) 0 0 = doneP k 4 0 := by
  unfold doneP
  rw [List.range_succ (n := k), List.flatMap_append]
  simp
theorem done_len : ∀ k, k < 5 → ∀ i, i < 5 → ∀ j, j < 5 → (doneP k i j).length ≤ 200 := by decide +kernel
theorem done_all : ∀ a, a < 5 → ∀ b, b < 5 → (doneP 5 0 0).count (a * 60 + b) = if a = b then 4 else 3 := by decide +kernel
def Tab (w : World) (g : Nat) (L : List Nat) : Prop := ∃ cs : Array Value, BoxAt w g cs 327 ∧ cs.size = 3600 ∧ ∀ i, i < 3600 → cs[i]? = some (.int .i64 ((L.count i : Nat) : Int))
theorem Tab.new (w : World) : Tab (w.alloc (.cells (Array.replicate 3600 (.int .i64 0)) 327)) w.heap.size [] :=
  ⟨_, BoxAt.new _ _ _, by rw [Array.size_replicate], fun i hi => by rw [Array.getElem?_replicate, if_pos hi]; rfl⟩
theorem Tab.ext {w w' : World} {g : Nat} {L : List Nat} (h : Tab w g L) (e : Ext w w') : Tab w' g L := by
  obtain ⟨cs, h1, h2⟩ := h
  exact ⟨cs, h1.ext e, h2⟩
theorem Tab.lt {w : World} {g : Nat} {L : List Nat} (h : Tab w g L) : g < w.heap.size := by obtain ⟨cs, h1, _⟩ := h; exact h1.lt
theorem Tab.cell {w : World} {g : Nat} {L : List Nat} (h : Tab w g L) (x : Nat) (hx : x < 3600) : w.cell? ⟨g, x, none⟩ = some (.int .i64 ((L.count x : Nat) : Int)) := by
  obtain ⟨cs, h1, _, h3⟩ := h
  exact h1.cell x (h3 x hx)
theorem Tab.free {w : World} {g : Nat} {L : List Nat} (h : Tab w g L) (x : Nat) : w.frozen? ⟨g, x, none⟩ = false := by obtain ⟨cs, h1, _⟩ := h; exact h1.free x
theorem Tab.put {w : World} {g : Nat} {L : List Nat} (h : Tab w g L) (x : Nat) (hx : x < 3600) {n : Nat} (hn : L.count x = n) : Tab (w.setCell ⟨g, x, none⟩ (.int .i64 ((n : Int) + 1))) g (L ++ [x]) := by
  obtain ⟨cs, h1, h2, h3⟩ := h
  refine ⟨_, h1.set x _, by rw [Array.size_setIfInBounds]; exact h2, fun i hi => ?_⟩
  rw [List.count_append]
  by_cases hix : x = i
  · subst hix
    rw [Array.getElem?_setIfInBounds_self_of_lt (by omega)]
    simp [hn]
  · rw [Array.getElem?_setIfInBounds_ne hix, h3 i hi]
    have : List.count i [x] = 0 := by simp [hix]
    rw [this]
    rfl
set_option maxHeartbeats 4000000 in
theorem check_any (ra ro rc : Nat) (q : Nat → Nat × Nat × Nat) (w : World) (h : Rows54 w ra ro rc q) :
    Calls Tryz.prog 208 #[.agg #[.int .i64 5, .slice (some ⟨ra, ro, none⟩) 5 rc]] w fun e w' => e = .returned (.tuple #[.int .i64 4, .int .i64 3, .int .i64 0]) ∧ Ext w w' := by
  have HR := Lib.hid h
  clear h
  obtain ⟨i0, hi0, hz0⟩ : ∃ i0, Tryz.prog.info? 327 = some i0 ∧ i0.zero = some (.agg (Array.replicate 3600 (.int .i64 0))) := by
    have := info_tab
    cases h : Tryz.prog.info? 327 with
    | none => rw [h] at this; cases this
    | some i => rw [h] at this; exact ⟨i, rfl, by injection this⟩
  go_enter Tryz.func208, Tryz.ntmps208
  have hbx := BoxAt.new w #[.int .i64 5, .slice (some ⟨ra, ro, none⟩) 5 rc] 117
  have HBX := Lib.hid hbx
  clear hbx
  go_wp2_with first | (go_at_call 232; refine (formed_any ra ro rc q _ (HR.out.ext (Ext.alloc _ _))).mono ?_; rintro e W1 ⟨rfl, hx1⟩) | (refine wpList_alloc_zero 327 rfl (by rfl) hi0 hz0 ?_; have hT := Lib.hid (Tab.new W1); have hE : Hid (Ext w (W1.alloc (.cells (Array.replicate 3600 (.int .i64 0)) 327))) := (Ext.alloc _ _).trans (Ext.trans hx1 (Ext.alloc _ _)); have hB : BoxAt (W1.alloc (.cells (Array.replicate 3600 (.int .i64 0)) 327)) w.heap.size #[.int .i64 5, .slice (some ⟨ra, ro, none⟩) 5 rc] 117 := HBX.out.ext (Ext.trans hx1 (Ext.alloc _ _)); have c0 := hB.cell 0 (v := .int .i64 5) rfl; have c1 := hB.cell 1 (v := .slice (some ⟨ra, ro, none⟩) 5 rc) rfl; have hz := hB.lt; have hgz : w.heap.size < W1.heap.size := Nat.lt_of_lt_of_le (by simp) hx1.size; clear hx1 hB hz0; generalize (W1.alloc (.cells (Array.replicate 3600 (.int .i64 0)) 327)) = W at *; generalize W1.heap.size = g at *)
  have HW := Lib.hid (HR.out.ext hE.out)
  clear HBX hi0
  go_loopw [23] (fun it wr => ∃ k : Nat, k ≤ 5 ∧ it = .int .i64 k ∧ Below g W wr ∧ Tab wr g (doneP k 0 0)) (fun it _ => 5 - (intOf it).toNat)
  case atStart => exact ⟨0, by decide, rfl, Below.refl _ _, hT.out⟩
  case round =>
    obtain ⟨k, hk, rfl, hX, hTb⟩ := hrel
    have HRr := HR.out.ext (Below.trans hE.out (Below.mono hX (by omega)))
    have d0 := (Below.cell hX (p := ⟨w.heap.size, 0, none⟩) hgz).trans c0
    have d1 := (Below.cell hX (p := ⟨w.heap.size, 1, none⟩) hgz).trans c1
    have hz2 := Nat.lt_of_lt_of_le hz hX.size
    have lra := HRr.lt
    have HX := Lib.hid hX
    have HTB := Lib.hid hTb
    clear hX hTb
    by_cases hlt : k < 5
    · have hkI : (k : Int) < 5 := by omega
      have rk := HRr.row k hlt
      have lk := HRr.blk k hlt
      have hcap := HRr.cap
      have hkg : (q k).1 < w.heap.size := HR.out.blk k hlt
      have HC : Hid (∀ i, i < 4 → w.cell? ⟨(q k).1, (q k).2.1 + i, none⟩ = some (.int .i64 ((eln k i : Nat) : Int))) := fun i hi => by have := HR.out.cell k hlt i hi; rw [eln_cast hlt hi] at this; exact this
      have hkc : 4 ≤ (q k).2.2 := HRr.cl k hlt
      generalize q k = z at *
      obtain ⟨kb, ko, kc⟩ := z
      simp only at rk lk hkg HC hkc
      have HRK := Lib.hid rk
      clear HRr
      go_wp2
      clear rk
      generalize wr = wo at *
      go_loopw [29] (fun it wr => ∃ i : Nat, i ≤ 4 ∧ it = .int .i64 i ∧ Below g W wr ∧ Tab wr g (doneP k i 0)) (fun it _ => 4 - (intOf it).toNat)
      case atStart => exact ⟨0, by decide, rfl, HX.out, HTB.out⟩
      case round =>
        obtain ⟨i, hi, rfl, hX, hTb⟩ := hrel
        have HX2 := Lib.hid hX
        have HTB2 := Lib.hid hTb
        by_cases hlt2 : i < 4
        · have hiI : (i : Int) < 4 := by omega
          have ci := (Below.cell (show Ext w wr from Below.trans hE.out (Below.mono hX (by omega))) (p := ⟨kb, ko + i, none⟩) hkg).trans (HC.out i hlt2)
          have hik : i ≤ kc := by omega
          have lkb : kb < wr.heap.size := Nat.lt_of_lt_of_le hkg (show Ext w wr from Below.trans hE.out (Below.mono hX (by omega))).size
          clear hX hTb
          go_wp2
          clear ci
          generalize wr = wi at *
          go_loopw [35] (fun it wr => ∃ j : Nat, j ≤ 4 ∧ it = .int .i64 j ∧ Below g W wr ∧ Tab wr g (doneP k i j)) (fun it _ => 4 - (intOf it).toNat)
          case atStart => exact ⟨0, by decide, rfl, HX2.out, HTB2.out⟩
          case round =>
            obtain ⟨j, hj, rfl, hX, hTb⟩ := hrel
            have HX3 := Lib.hid hX
            have HTB3 := Lib.hid hTb
            by_cases hlt3 : j < 4
            · have hjI : (j : Int) < 4 := by omega
              have cj := (Below.cell (show Ext w wr from Below.trans hE.out (Below.mono hX (by omega))) (p := ⟨kb, ko + j, none⟩) hkg).trans (HC.out j hlt3)
              have hjk : j ≤ kc := by omega
              have lkb2 : kb < wr.heap.size := Nat.lt_of_lt_of_le hkg (show Ext w wr from Below.trans hE.out (Below.mono hX (by omega))).size
              have ha := eln_lt hlt hlt2
              have hb := eln_lt hlt hlt3
              have tg := hTb.lt
              have tc := hTb.cell (eln k i * 60 + eln k j) (by omega)
              have tf := hTb.free (eln k i * 60 + eln k j)
              have hcn : (doneP k i j).count (eln k i * 60 + eln k j) ≤ 200 := Nat.le_trans List.count_le_length (done_len k hlt i (by omega) j (by omega))
              have hTn := Lib.hid (fun (n : Nat) (h : (doneP k i j).count (eln k i * 60 + eln k j) = n) => (done_j k i j) ▸ (hTb.ext (Ext.drew wr)).put (eln k i * 60 + eln k j) (by omega) h)
              obtain ⟨n, hn⟩ : ∃ n, (doneP k i j).count (eln k i * 60 + eln k j) = n := ⟨_, rfl⟩
              have hTm := Lib.hid (hTn.out n hn)
              rw [hn] at tc hcn
              clear hX hTb hTn hn
              generalize eln k i = a at *
              generalize eln k j = b at *
              have haI : (a : Int) < 60 := by omega
              have hbI : (b : Int) < 60 := by omega
              have hw9 : IntKind.i64.wrap ((n : Int) + 1) = (n : Int) + 1 := i64_id _ (by omega)
              go_wp2_with fail
              refine wp_region_ext [(0, true), (1, true), (2, true), (3, true), (4, true), (5, true), (6, true), (7, true), (8, false)] (by kernel_rfl) (by kernel_rfl) ?_
              iterate 8 ((first
               | refine ext_move rfl rfl (by rfl) (by rfl) ?_
               | refine ext_assign rfl rfl (by rfl) (by rfl) ?_
               | refine ext_pick_t rfl rfl (by rfl) (by rfl) (by rfl) ?_
               | refine ext_pick_f rfl rfl (by rfl) (by rfl) (by rfl) ?_
               | (apply ext_take rfl (by rfl)
                  · intro w' hS
                    have hSc := hS.cells
                    (try simp only [World.size_drew, World.cell?_drew] at hSc)
                    go_simp
                    (try simp (disch := omega) only [i64_id, u64_id, ↓IntWalk.iteOmega, Int.tdiv_eq_ediv_of_nonneg, Int.tmod_eq_emod_of_nonneg])
                    try rfl)
               | refine ext_pass rfl (by rfl) ?_); simp only [Act.put, setZa, setZ0, setZ1])
              (refine ext_last rfl (by rfl) (by kernel_rfl) (fun K hK => ?_)
               go_simp
               refine hK _ _ ?_
               clear hK K
               (try simp only [Act.put, setZa, setZ0, setZ1]))
              go_wp2
              go_roundw
              case rel => exact ⟨j + 1, by omega, by go_num, bel_set (HX3.out.drew) (Nat.le_refl _) _ _, hTm.out⟩
              case measure => simp [intOf]; omega
            · have hjI : ¬ ((j : Int) < 4) := by omega
              have hj4 : j = 4 := by omega
              subst hj4
              go_wp2
              go_roundw
              case rel => exact ⟨i + 1, by omega, by go_num, hX, done_i k i ▸ hTb⟩
              case measure => simp [intOf]; omega
        · have hiI : ¬ ((i : Int) < 4) := by omega
          have hi4 : i = 4 := by omega
          subst hi4
          go_wp2
          go_roundw
          case rel => exact ⟨k + 1, by omega, by go_num, hX, done_k k ▸ hTb⟩
          case measure => simp [intOf]; omega
    · have hkI : ¬ ((k : Int) < 5) := by omega
      have hk5 : k = 5 := by omega
      subst hk5
      have t0 := HTB.out.cell (0 * 60 + 0) (by decide)
      have t1 := HTB.out.cell (0 * 60 + 1) (by decide)
      rw [done_all 0 (by decide) 0 (by decide), if_pos rfl] at t0
      rw [done_all 0 (by decide) 1 (by decide), if_neg (by decide)] at t1
      have tg := HTB.out.lt
      go_wp2_with fail
      refine wp_region_ext [(0, true), (1, true), (2, true), (3, true), (4, true), (5, true), (6, true), (7, true)] (by kernel_rfl) (by kernel_rfl) ?_
      iterate 8 ((first
       | refine ext_move rfl rfl (by rfl) (by rfl) ?_
       | refine ext_assign rfl rfl (by rfl) (by rfl) ?_
       | refine ext_pick_t rfl rfl (by rfl) (by rfl) (by rfl) ?_
       | refine ext_pick_f rfl rfl (by rfl) (by rfl) (by rfl) ?_
       | (apply ext_take rfl (by rfl)
          · intro w' hS
            have hSc := hS.cells
            (try simp only [World.size_drew, World.cell?_drew] at hSc)
            go_simp
            (try simp (disch := omega) only [i64_id, u64_id, ↓IntWalk.iteOmega, Int.tdiv_eq_ediv_of_nonneg, Int.tmod_eq_emod_of_nonneg])
            try rfl)
       | refine ext_pass rfl (by rfl) ?_); simp only [Act.put, setZa, setZ0, setZ1])
      refine ext_nil ?_
      have hTv := Lib.hid (HTB.out.ext (Ext.drew wr))
      have hXv := Lib.hid (show Below g W wr.drew from HX.out.drew)
      have d0v : wr.drew.cell? ⟨w.heap.size, 0, none⟩ = some (.int .i64 5) := by rw [World.cell?_drew]; exact d0
      have hzv : w.heap.size < wr.drew.heap.size := hz2
      clear t0 t1 tg HTB HX d0 d1 hz2 lra HRr hlt hkI hk
      generalize wr.drew = wv at *
      go_wp2
      go_loopw [58] (fun it wr => ∃ a : Nat, a ≤ 5 ∧ it = .int .i64 a ∧ Ext wv wr) (fun it _ => 5 - (intOf it).toNat)
      case atStart => exact ⟨0, by decide, rfl, Ext.refl _⟩
      case round =>
        obtain ⟨a, ha, rfl, hX⟩ := hrel
        have e0 := (Below.cell hX (p := ⟨w.heap.size, 0, none⟩) hzv).trans d0v
        have hz3 := Nat.lt_of_lt_of_le hzv hX.size
        have HX := Lib.hid hX
        by_cases hlt : a < 5
        · have haI : (a : Int) < 5 := by omega
          clear hX
          go_wp2
          generalize wr = wo at *
          go_loopw [63] (fun it wr => ∃ b : Nat, b ≤ 5 ∧ it = .int .i64 b ∧ Ext wo wr) (fun it _ => 5 - (intOf it).toNat)
          case atStart => exact ⟨0, by decide, rfl, Ext.refl _⟩
          case round =>
            obtain ⟨b, hb, rfl, hX⟩ := hrel
            have HX2 := Lib.hid hX
            by_cases hlt2 : b < 5
            · have hbI : (b : Int) < 5 := by omega
              have hTw := hTv.out.ext (Ext.trans HX.out hX)
              have tc := hTw.cell (a * 60 + b) (by omega)
              rw [done_all a hlt b hlt2] at tc
              have tg := hTw.lt
              have haI2 : (a : Int) < 60 := by omega
              have hbI2 : (b : Int) < 60 := by omega
              clear hX hTw
              by_cases hab : a = b
              · subst hab
                rw [if_pos rfl] at tc
                go_wp2
                go_roundw
                case rel => exact ⟨a + 1, by omega, by go_num, HX2.out⟩
                case measure => simp [intOf]; omega
              · rw [if_neg hab] at tc
                have habI : ((a : Int) == (b : Int)) = false := by rw [beq_eq_false_iff_ne]; omega
                have habJ : ¬ ((a : Int) = (b : Int)) := by omega
                go_wp2
                go_roundw
                case rel => exact ⟨b + 1, by omega, by go_num, HX2.out⟩
                case measure => simp [intOf]; omega
            · have hbI : ¬ ((b : Int) < 5) := by omega
              go_wp2
              go_roundw
              case rel => exact ⟨a + 1, by omega, by go_num, HX.out.trans hX⟩
              case measure => simp [intOf]; omega
        · have haI : ¬ ((a : Int) < 5) := by omega
          go_wp2_with fail
          go_ret3
          exact ⟨rfl, Below.trans hE.out (Below.trans (Below.mono hXv.out (by omega)) (Below.mono hX (by have := hE.out.size; have := hXv.out.size; omega)))⟩
end Go.Proofs.YtjabgpejmnpamaaGreatDoor

namespace Go.Proofs.YtjabgpejmnpamaaGreatDoor
open Go.RowKit
set_option maxRecDepth 100000
abbrev numC (rv rk on : Value) (h c : Int) : Array Value := #[.int .i64 5, rv, .int .i64 1, .int .i64 0, .int .i64 4, .int .i64 4, .int .i64 5, rk, on, .int .i64 h, .int .i64 c]
set_option maxHeartbeats 2000000 in
theorem ldata_any (a1 a2 a3 : Option Addr) (n1 n2 n3 c1 c2 c3 : Nat) (h c : Int) (w : World) :
    Calls Tryz.prog 157 #[.agg (numC (.slice a1 n1 c1) (.slice a2 n2 c2) (.slice a3 n3 c3) h c)] w fun e w' => e = .returned (.int .i64 1) ∧ Ext w w' := by
  unfold numC
  go_enter Tryz.func157, Tryz.ntmps157
  go_wp2
  go_ret
  exact ⟨rfl, Ext.alloc _ _⟩
set_option maxHeartbeats 2000000 in
theorem lgroups_any (a1 a2 a3 : Option Addr) (n1 n2 n3 c1 c2 c3 : Nat) (h c : Int) (w : World) :
    Calls Tryz.prog 156 #[.agg (numC (.slice a1 n1 c1) (.slice a2 n2 c2) (.slice a3 n3 c3) h c)] w fun e w' => e = .returned (.int .i64 5) ∧ Ext w w' := by
  unfold numC
  go_enter Tryz.func156, Tryz.ntmps156
  go_wp2
  go_ret
  exact ⟨rfl, Ext.alloc _ _⟩
structure FamR (w : World) (gon : Nat) (vs : Nat → Value) (N : Nat) : Prop where
  row : ∀ d, d < 6 → ∃ l : List Int, OwnI w (gon + 1) (vs d) l ∧ l.length ≤ N
  apart : ∀ d e, d < 6 → e < 6 → d ≠ e → (vs d).ownBlock = none ∨ (vs d).ownBlock ≠ (vs e).ownBlock
def updF (vs : Nat → Value) (d : Nat) (v : Value) : Nat → Value := fun k => if k = d then v else vs k
theorem FamR.ext {w w' : World} {gon N : Nat} {vs : Nat → Value} (h : FamR w gon vs N) (e : Ext w w') : FamR w' gon vs N :=
  ⟨fun d hd => by obtain ⟨l, h1, h2⟩ := h.row d hd; exact ⟨l, h1.ext e, h2⟩, h.apart⟩
theorem FamR.more {w : World} {gon N M : Nat} {vs : Nat → Value} (h : FamR w gon vs N) (hm : N ≤ M) : FamR w gon vs M :=
  ⟨fun d hd => by obtain ⟨l, h1, h2⟩ := h.row d hd; exact ⟨l, h1, by omega⟩, h.apart⟩
theorem FamR.off {w : World} {gon N g : Nat} {vs : Nat → Value} (h : FamR w gon vs N) (hg : g ≤ gon) (o : Nat) (y : Value) : FamR (w.setCell ⟨g, o, none⟩ y) gon vs N :=
  ⟨fun d hd => by obtain ⟨l, h1, h2⟩ := h.row d hd; exact ⟨l, h1.off (fun e => by have := (h1.lt g e).1; omega) o y, h2⟩, h.apart⟩
theorem FamR.nil {w : World} {gon N : Nat} {vs : Nat → Value} (h : FamR w gon vs N) (d : Nat) (hd : d < 6) : FamR w gon (updF vs d (.slice none 0 0)) N := by
  refine ⟨fun k hk => ?_, fun k e hk he hne => ?_⟩
  · unfold updF
    split
    · exact ⟨[], OwnG.nil, Nat.zero_le _⟩
    · exact h.row k hk
  · unfold updF
    split
    · exact .inl rfl
    · split
      · cases hv : (vs k).ownBlock with
        | none => exact .inl rfl
        | some g => exact .inr (by simp [Value.ownBlock])
      · exact h.apart k e hk he hne
theorem FamR.app {w w1 w7 : World} {gon N d : Nat} {vs : Nat → Value} {v' : Value} {l' : List Int} (h : FamR w gon vs N) (hd : d < 6) (e : Ext w w1) (ho : OwnI w7 (gon + 1) v' l') (hl : l'.length ≤ N + 1) (hg : w1.grownBy w7 (vs d).ownBlock) (hat : v'.ownBlock = (vs d).ownBlock ∨ v'.ownBlock = some w1.heap.size) :
    FamR w7 gon (updF vs d v') (N + 1) := by
  have hlt : ∀ k, k < 6 → ∀ g, (vs k).ownBlock = some g → g < w1.heap.size := fun k hk g hg => by
    obtain ⟨l, h1, _⟩ := h.row k hk
    exact Nat.lt_of_lt_of_le (h1.lt g hg).2 e.size
  refine ⟨fun k hk => ?_, fun k m hk hm hne => ?_⟩
  · unfold updF
    split
    · exact ⟨l', ho, hl⟩
    · rename_i hkd
      obtain ⟨l, h1, h2⟩ := h.row k hk
      refine ⟨l, (h1.ext e).kept hg ?_, by omega⟩
      exact (h.apart k d hk hd hkd).symm
  · unfold updF
    by_cases hkd : k = d
    · rw [if_pos hkd, if_neg (fun h => hne (hkd.trans h.symm))]
      rcases hat with hat | hat
      · rw [hat]; exact h.apart d m hd hm (fun h => hne (hkd.trans h))
      · rw [hat]
        refine .inr (fun h => ?_)
        have := hlt m hm _ h.symm
        omega
    · rw [if_neg hkd]
      by_cases hmd : m = d
      · rw [if_pos hmd]
        rcases hat with hat | hat
        · rw [hat]; exact h.apart k d hk hd hkd
        · rw [hat]
          cases hv : (vs k).ownBlock with
          | none => exact .inl rfl
          | some g => exact .inr (fun h => by have := hlt k hk g hv; cases h; omega)
      · rw [if_neg hmd]; exact h.apart k m hk hm hne
theorem upd_box {vs : Nat → Value} {d : Nat} {v : Value} (hd : d < 5) : (#[vs 0, vs 1, vs 2, vs 3, vs 4] : Array Value).setIfInBounds d v = #[updF vs d v 0, updF vs d v 1, updF vs d v 2, updF vs d v 3, updF vs d v 4] := by
  match d, hd with
  | 0, _ => rfl
  | 1, _ => rfl
  | 2, _ => rfl
  | 3, _ => rfl
  | 4, _ => rfl
theorem fam_cell {w : World} {g d : Nat} {vs : Nat → Value} {t : TypeId} (h : BoxAt w g #[vs 0, vs 1, vs 2, vs 3, vs 4] t) (hd : d < 5) : w.cell? ⟨g, d, none⟩ = some (vs d) := by
  match d, hd with
  | 0, _ => exact h.cell 0 rfl
  | 1, _ => exact h.cell 1 rfl
  | 2, _ => exact h.cell 2 rfl
  | 3, _ => exact h.cell 3 rfl
  | 4, _ => exact h.cell 4 rfl
structure MS (W5 : World) (gx gon : Nat) (cx : Array Value) (vs : Nat → Value) (N : Nat) (rk : Value) (xs : List Value) (wr : World) : Prop where
  lt : gx < gon
  bel : Below gx W5 wr
  fam : FamR wr gon vs N
  boxo : BoxAt wr gon #[vs 0, vs 1, vs 2, vs 3, vs 4] 40
  row : OwnG id 40 wr (gon + 1) rk xs
  boxx : BoxAt wr gx cx 264
  size : W5.heap.size ≤ wr.heap.size
section
variable {W5 : World} {gx gon : Nat} {cx : Array Value} {vs : Nat → Value} {N : Nat} {rk : Value} {xs : List Value} {wr w1 w7 : World}
theorem MS.ext (h : MS W5 gx gon cx vs N rk xs wr) (e : Ext wr w1) : MS W5 gx gon cx vs N rk xs w1 :=
  ⟨h.lt, Below.trans h.bel (Below.mono e (by have := h.boxx.lt; omega)), h.fam.ext e, h.boxo.ext e, h.row.ext e, h.boxx.ext e, Nat.le_trans h.size e.size⟩
theorem fam_ge (h : FamR wr gon vs N) {d : Nat} (hd : d < 6) : ∀ g, (vs d).ownBlock = some g → gon + 1 ≤ g ∧ g < wr.heap.size := fun g hg => by
  obtain ⟨l, h1, _⟩ := h.row d hd
  exact h1.lt g hg
theorem MS.app {d : Nat} {v' : Value} {l' : List Int} (h : MS W5 gx gon cx vs N rk xs wr) (hd : d < 6) (e : Ext wr w1) (ho : OwnI w7 (gon + 1) v' l') (hl : l'.length ≤ N + 1) (hg : w1.grownBy w7 (vs d).ownBlock) (hat : v'.ownBlock = (vs d).ownBlock ∨ v'.ownBlock = some w1.heap.size) :
    Below gx W5 w7 ∧ FamR w7 gon (updF vs d v') (N + 1) ∧ BoxAt w7 gon #[vs 0, vs 1, vs 2, vs 3, vs 4] 40 ∧ OwnG id 40 w7 (gon + 1) rk xs ∧ BoxAt w7 gx cx 264 ∧ W5.heap.size ≤ w7.heap.size := by
  have h1 := h.ext e
  have hge := fam_ge h.fam hd
  obtain ⟨l, hl1, _⟩ := h.fam.row d hd
  refine ⟨Below.grown h1.bel hg (by have := h1.boxx.lt; omega) (fun k hk => by have := hge k hk; have := h.lt; omega), h.fam.app hd e ho hl hg hat, h1.boxo.grown hg (fun hb => by have := hge gon hb.symm; omega), h1.row.kept hg (ssrows_apart (hl1.ext e) h1.row (by decide)), h1.boxx.grown hg (fun hb => by have := hge gx hb.symm; have := h.lt; omega), Nat.le_trans h1.size hg.size⟩
theorem MS.app5 {v' : Value} {l' : List Int} (h : MS W5 gx gon cx vs N rk xs wr) (e : Ext wr w1) (ho : OwnI w7 (gon + 1) v' l') (hl : l'.length ≤ N + 1) (hg : w1.grownBy w7 (vs 5).ownBlock) (hat : v'.ownBlock = (vs 5).ownBlock ∨ v'.ownBlock = some w1.heap.size) :
    MS W5 gx gon cx (updF vs 5 v') (N + 1) rk xs w7 := by
  obtain ⟨h1, h2, h3, h4, h5, h6⟩ := h.app (by decide) e ho hl hg hat
  exact ⟨h.lt, h1, h2, h3, h4, h5, h6⟩
theorem MS.put {d : Nat} {v' : Value} {l' : List Int} (h : MS W5 gx gon cx vs N rk xs wr) (hd : d < 5) (e : Ext wr w1) (ho : OwnI w7 (gon + 1) v' l') (hl : l'.length ≤ N + 1) (hg : w1.grownBy w7 (vs d).ownBlock) (hat : v'.ownBlock = (vs d).ownBlock ∨ v'.ownBlock = some w1.heap.size) :
    MS W5 gx gon cx (updF vs d v') (N + 1) rk xs (w7.setCell ⟨gon, d, none⟩ v') := by
  obtain ⟨h1, h2, h3, h4, h5, h6⟩ := h.app (by omega) e ho hl hg hat
  refine ⟨h.lt, bel_set h1 (by have := h.lt; omega) _ _, h2.off (Nat.le_refl _) _ _, ?_, h4.off (fun hb => by have := (h4.lt gon hb).1; omega) _ _, h5.set_off (by have := h.lt; omega) _ _, by simpa using h6⟩
  rw [← upd_box hd]
  exact h3.set d v'
theorem MS.nil5 (h : MS W5 gx gon cx vs N rk xs wr) : MS W5 gx gon cx (updF vs 5 (.slice none 0 0)) N rk xs wr := ⟨h.lt, h.bel, h.fam.nil 5 (by decide), h.boxo, h.row, h.boxx, h.size⟩
theorem MS.more {M : Nat} (h : MS W5 gx gon cx vs N rk xs wr) (hm : N ≤ M) : MS W5 gx gon cx vs M rk xs wr := ⟨h.lt, h.bel, h.fam.more hm, h.boxo, h.row, h.boxx, h.size⟩
theorem MS.rank {v' y : Value} (h : MS W5 gx gon cx vs N rk xs wr) (e : Ext wr w1) (ho : OwnG id 40 w7 (gon + 1) v' (xs ++ [y])) (hg : w1.grownBy w7 rk.ownBlock) :
    MS W5 gx gon (cx.setIfInBounds 7 v') vs N v' (xs ++ [y]) (w7.setCell ⟨gx, 7, none⟩ v') := by
  have h1 := h.ext e
  have hge := h1.row.lt
  have hlt := h.lt
  refine ⟨h.lt, bel_set (Below.grown h1.bel hg (by have := h1.boxx.lt; omega) (fun k hk => by have := (hge k hk).1; omega)) (Nat.le_refl _) _ _, ?_, (h1.boxo.grown hg (fun hb => by have := (hge gon hb.symm).1; omega)).set_off (by omega) _ _,
    ho.off (fun hb => by have := (ho.lt gx hb).1; omega) _ _, (h1.boxx.grown hg (fun hb => by have := (hge gx hb.symm).1; omega)).set 7 v', by have := h1.size; have := hg.size; simp; omega⟩
  refine FamR.off ⟨fun d hd => ?_, h.fam.apart⟩ (by omega) _ _
  obtain ⟨l, k1, k2⟩ := h1.fam.row d hd
  exact ⟨l, k1.kept hg (ssrows_apart h1.row k1 (by decide)), k2⟩
end
end Go.Proofs.YtjabgpejmnpamaaGreatDoor

namespace Go.Proofs.YtjabgpejmnpamaaGreatDoor
open Go.RowKit
set_option maxRecDepth 100000
theorem mk5 : (#[.slice none 0 0, .slice none 0 0, .slice none 0 0, .slice none 0 0, .slice none 0 0] : Array Value) = madeCells #[.slice none 0 0] 5 := by
  refine Array.ext (by simp [madeCells]) (fun i h1 h2 => ?_)
  have h : i < 5 := h1
  simp only [madeCells, Array.getElem_map, Array.getElem_range]
  match i, h with
  | 0, _ => rfl
  | 1, _ => rfl
  | 2, _ => rfl
  | 3, _ => rfl
  | 4, _ => rfl
theorem box_load0 {P : Program} {w : World} {g : Nat} {ty t : TypeId} {cs : Array Value} {d : TypeDesc} (h : BoxAt w g cs t) (hu : P.underlying ty = some d) (hd : d.isRow = true) (hi : (P.info? ty).map (·.size) = some cs.size) :
    (Instr.loadAt ty (.pointer (some ⟨g, 0, none⟩))).run P w = .ok (.agg cs) w := by
  have := box_load (P := P) (o := 0) (part := cs.toList) h (fun j v hv => by rw [Nat.zero_add]; simpa using hv) hu hd (by simpa using hi)
  simpa using this
abbrev mCx (ra ro rc gon : Nat) (rk : Value) : Array Value := #[.int .i64 5, .slice (some ⟨ra, ro, none⟩) 5 rc, .int .i64 1, .int .i64 0, .int .i64 4, .int .i64 4, .int .i64 5, rk, .slice (some ⟨gon, 0, none⟩) 5 5, .int .i64 4, .int .i64 4]
def MeasEnd (rv : Value) (w : World) (e : Ending) (w' : World) : Prop := ∃ a2 n2 c2 a3 n3 c3, e = .returned (.tuple #[.agg (numC rv (.slice a2 n2 c2) (.slice a3 n3 c3) 4 4), .bool true]) ∧ Ext w w'
set_option maxHeartbeats 8000000 in
theorem measure_any (ra ro rc : Nat) (q : Nat → Nat × Nat × Nat) (w : World) (h : Rows54 w ra ro rc q) :
    Calls Tryz.prog 155 #[.agg #[.int .i64 5, .slice (some ⟨ra, ro, none⟩) 5 rc, .int .i64 1, .int .i64 0]] w (MeasEnd (.slice (some ⟨ra, ro, none⟩) 5 rc) w) := by
  have HR := Lib.hid h
  clear h
  go_enter Tryz.func155, Tryz.ntmps155
  have hb1 := BoxAt.new w #[.int .i64 5, .slice (some ⟨ra, ro, none⟩) 5 rc, .int .i64 1, .int .i64 0] 122
  have HB1 := Lib.hid hb1
  clear hb1
  go_wp2_with (go_at_call 208; refine (check_any ra ro rc q _ (HR.out.ext ((Ext.alloc _ _).trans (Ext.alloc _ _)))).mono ?_; rintro e W1 ⟨rfl, hx1⟩)
  have hb1 : BoxAt W1 w.heap.size #[.int .i64 5, .slice (some ⟨ra, ro, none⟩) 5 rc, .int .i64 1, .int .i64 0] 122 := HB1.out.ext ((Ext.alloc _ _).trans hx1)
  have hb2 : BoxAt W1 (w.heap.size + 1) #[.int .i64 0, .slice none 0 0, .int .i64 0, .int .i64 0, .int .i64 0, .int .i64 0, .int .i64 0, .slice none 0 0, .slice none 0 0, .int .i64 0, .int .i64 0] 264 := by
    have := BoxAt.new (w.alloc (.cells #[.int .i64 5, .slice (some ⟨ra, ro, none⟩) 5 rc, .int .i64 1, .int .i64 0] 122)) #[.int .i64 0, .slice none 0 0, .int .i64 0, .int .i64 0, .int .i64 0, .int .i64 0, .int .i64 0, .slice none 0 0, .slice none 0 0, .int .i64 0, .int .i64 0] 264
    rw [World.size_alloc] at this
    exact this.ext hx1
  have e1 : Ext w W1 := (Ext.alloc _ _).trans ((Ext.alloc _ _).trans hx1)
  have HRW := HR.out.ext e1
  obtain ⟨g1, hg1⟩ : ∃ g, w.heap.size = g := ⟨_, rfl⟩
  obtain ⟨g2, hg2⟩ : ∃ g, g1 + 1 = g := ⟨_, rfl⟩
  rw [hg1] at hb1 hb2 ⊢
  rw [hg2] at hb2 ⊢
  have HG1 := Lib.hid hg1
  have HG2 := Lib.hid hg2
  have HBA := Lib.hid hb1
  have HBB := Lib.hid hb2
  have c0 := hb1.cell 0 (v := .int .i64 5) rfl
  have c1 := hb1.cell 1 (v := .slice (some ⟨ra, ro, none⟩) 5 rc) rfl
  have c2 := hb1.cell 2 (v := .int .i64 1) rfl
  have c3 := hb1.cell 3 (v := .int .i64 0) rfl
  have r0 := HRW.row 0 (by decide)
  rw [Nat.add_zero] at r0
  have lra := HRW.lt
  have l1 := hb1.lt
  have hcap := HRW.cap
  have HE1 := Lib.hid e1
  have HRV := Lib.hid HRW
  generalize q 0 = z0 at r0
  obtain ⟨b0, o0, q0⟩ := z0
  simp only at r0
  clear hx1 HB1 hg1 hg2 hb1 hb2 e1 HRW
  refine wp_region_ext [(0, true), (1, true), (2, true), (3, true), (4, true), (5, true), (6, true), (7, true), (8, true), (9, true), (10, true), (11, true), (12, true), (13, false), (14, false)] (by kernel_rfl) (by kernel_rfl) ?_
  iterate 13 ((first
   | refine ext_move rfl rfl (by rfl) (by rfl) ?_
   | refine ext_assign rfl rfl (by rfl) (by rfl) ?_
   | refine ext_pick_t rfl rfl (by rfl) (by rfl) (by rfl) ?_
   | refine ext_pick_f rfl rfl (by rfl) (by rfl) (by rfl) ?_
   | (apply ext_take rfl (by rfl)
      · intro w' hS
        have hSc := hS.cells
        (try simp only [World.size_drew, World.cell?_drew] at hSc)
        go_simp
        (try simp (disch := omega) only [i64_id, u64_id, ↓IntWalk.iteOmega, Int.tdiv_eq_ediv_of_nonneg, Int.tmod_eq_emod_of_nonneg])
        try rfl)
   | refine ext_pass rfl (by rfl) ?_); simp only [Act.put, setZa, setZ0, setZ1])
  (refine ext_do rfl (by rfl) (fun K hK => ?_)
   go_simp
   refine hK _ _ (by first | exact Ext.alloc _ _ | exact (Ext.drew _).trans (Ext.alloc _ _)) ?_
   clear hK K
   (try simp only [Act.put, setZa, setZ0, setZ1]))
  (refine ext_last rfl (by rfl) (by kernel_rfl) (fun K hK => ?_)
   refine wp_of_list rfl ?_
   refine wpList_store_box 264 _ _ rfl (by rfl) rfl rfl (BoxAt.new W1.drew #[.int .i64 0, .slice none 0 0, .int .i64 0, .int .i64 0, .int .i64 0, .int .i64 0, .int .i64 0, .slice none 0 0, .slice none 0 0, .int .i64 0, .int .i64 0] 264) rfl (by kernel_rfl) (by simp [Value.oneCell']) ?_
   intro W2 hS2
   refine hK _ _ ?_
   clear hK K
   (try simp only [Act.put]))
  have e2 : Ext W1 W2 := hS2.bel (show Ext W1 _ from (Ext.drew _).trans (Ext.alloc _ _)) (Nat.le_refl _)
  have hx2 := hS2.box
  have HE2 := Lib.hid e2
  obtain ⟨gx, hgx⟩ : ∃ g, W1.heap.size = g := ⟨_, rfl⟩
  have hx2' : BoxAt W2 gx #[.int .i64 5, .slice (some ⟨ra, ro, none⟩) 5 rc, .int .i64 1, .int .i64 0, .int .i64 4, .int .i64 4, .int .i64 5, .slice none 0 0, .slice none 0 0, .int .i64 0, .int .i64 0] 264 := by rw [← hgx]; exact hx2
  have hg1x : g1 < gx := by rw [← hgx]; exact l1
  have hg2x : g2 < gx := by rw [← hgx]; exact HBB.out.lt
  have hgx' : (W1.drew).heap.size = gx := hgx
  rw [hgx]
  clear c0 c1 c2 c3 hS2 hx2 l1 r0 lra
  have HBX := Lib.hid hx2'
  have HGX := Lib.hid hgx
  have hb1 := HBA.out.ext e2
  have c0 := hb1.cell 0 (v := .int .i64 5) rfl
  have c1 := hb1.cell 1 (v := .slice (some ⟨ra, ro, none⟩) 5 rc) rfl
  have c2 := hb1.cell 2 (v := .int .i64 1) rfl
  have c3 := hb1.cell 3 (v := .int .i64 0) rfl
  have x4 := hx2'.cell 4 (v := .int .i64 4) rfl
  have x6 := hx2'.cell 6 (v := .int .i64 5) rfl
  have x9 := hx2'.cell 9 (v := .int .i64 0) rfl
  have x10 := hx2'.cell 10 (v := .int .i64 0) rfl
  have f9 := hx2'.free 9
  have f10 := hx2'.free 10
  have lx := hx2'.lt
  have l1 := hb1.lt
  have ne1 : g1 ≠ gx := by omega
  clear hb1 hx2' e2 hgx hgx'
  go_wp2_with fail
  have hbx : BoxAt ((W2.setCell ⟨gx, 9, none⟩ (.int .i64 4)).setCell ⟨gx, 10, none⟩ (.int .i64 4)) gx #[.int .i64 5, .slice (some ⟨ra, ro, none⟩) 5 rc, .int .i64 1, .int .i64 0, .int .i64 4, .int .i64 4, .int .i64 5, .slice none 0 0, .slice none 0 0, .int .i64 4, .int .i64 4] 264 := (HBX.out.set 9 (.int .i64 4)).set 10 (.int .i64 4)
  have e3 : Below gx W2 ((W2.setCell ⟨gx, 9, none⟩ (.int .i64 4)).setCell ⟨gx, 10, none⟩ (.int .i64 4)) := bel_set (bel_set (Below.refl _ _) (Nat.le_refl _) _ _) (Nat.le_refl _) _ _
  clear c0 c1 c2 c3 x4 x6 x9 x10 f9 f10 lx l1
  generalize ((W2.setCell ⟨gx, 9, none⟩ (.int .i64 4)).setCell ⟨gx, 10, none⟩ (.int .i64 4)) = W3 at *
  have hge := HE2.out.size
  have e13 : Ext W1 W3 := Below.trans HE2.out (Below.mono e3 (by have := HGX.out; omega))
  have hb1 := HBA.out.ext e13
  have c0 := hb1.cell 0 (v := .int .i64 5) rfl
  have c1 := hb1.cell 1 (v := .slice (some ⟨ra, ro, none⟩) 5 rc) rfl
  have c2 := hb1.cell 2 (v := .int .i64 1) rfl
  have l1 := hb1.lt
  have x0 := hbx.cell 0 (v := .int .i64 5) rfl
  have x1 := hbx.cell 1 (v := .slice (some ⟨ra, ro, none⟩) 5 rc) rfl
  have x2 := hbx.cell 2 (v := .int .i64 1) rfl
  have x3 := hbx.cell 3 (v := .int .i64 0) rfl
  have x4 := hbx.cell 4 (v := .int .i64 4) rfl
  have x5 := hbx.cell 5 (v := .int .i64 4) rfl
  have x6 := hbx.cell 6 (v := .int .i64 5) rfl
  have x7 := hbx.cell 7 (v := .slice none 0 0) rfl
  have x8 := hbx.cell 8 (v := .slice none 0 0) rfl
  have x9 := hbx.cell 9 (v := .int .i64 4) rfl
  have x10 := hbx.cell 10 (v := .int .i64 4) rfl
  have lx := hbx.lt
  have HX3 := Lib.hid hbx
  have HE13 := Lib.hid e13
  clear hbx e3 e13 hb1 hge
  refine wp_region_ext [(0, true), (1, true), (2, true), (3, true), (4, true), (5, true), (6, true), (7, true), (8, true), (9, true), (10, true), (11, true), (12, true), (13, false), (14, true), (15, true), (16, true), (17, true), (18, true), (19, true), (20, true), (21, true)] (by kernel_rfl) (by kernel_rfl) ?_
  iterate 13 ((first
   | refine ext_move rfl rfl (by rfl) (by rfl) ?_
   | refine ext_assign rfl rfl (by rfl) (by rfl) ?_
   | refine ext_pick_t rfl rfl (by rfl) (by rfl) (by rfl) ?_
   | refine ext_pick_f rfl rfl (by rfl) (by rfl) (by rfl) ?_
   | (apply ext_take rfl (by rfl)
      · intro w' hS
        have hSc := hS.cells
        (try simp only [World.size_drew, World.cell?_drew] at hSc)
        go_simp
        (try simp (disch := omega) only [i64_id])
        try rfl)
   | refine ext_pass rfl (by rfl) ?_); simp only [Act.put, setZa, setZ0, setZ1])
  (refine ext_do rfl (by rfl) (fun K hK => ?_)
   go_simp
   go_at_call 157
   refine (ldata_any (some ⟨ra, ro, none⟩) none none 5 0 0 rc 0 0 4 4 _).mono ?_
   rintro e W4 ⟨rfl, hx4⟩
   have e4 : Ext W3 W4 := by first | exact hx4 | exact (Ext.drew _).trans hx4
   have y10 := (Below.cell e4 (p := ⟨gx, 10, none⟩) lx).trans x10
   have ly := Nat.lt_of_lt_of_le lx e4.size
   refine hK _ _ (by first | exact hx4 | exact e4) ?_
   clear hK K
   (try simp only [Act.put, setZa, setZ0, setZ1]))
  iterate 8 ((first
   | refine ext_move rfl rfl (by rfl) (by rfl) ?_
   | refine ext_assign rfl rfl (by rfl) (by rfl) ?_
   | refine ext_pick_t rfl rfl (by rfl) (by rfl) (by rfl) ?_
   | refine ext_pick_f rfl rfl (by rfl) (by rfl) (by rfl) ?_
   | (apply ext_take rfl (by rfl)
      · intro w' hS
        have hSc := hS.cells
        (try simp only [World.size_drew, World.cell?_drew] at hSc)
        go_simp
        (try simp (disch := omega) only [i64_id])
        try rfl)
   | refine ext_pass rfl (by rfl) ?_); simp only [Act.put, setZa, setZ0, setZ1])
  refine ext_nil ?_
  have hb4 := HX3.out.ext e4
  have e14 : Ext W1 W4 := HE13.out.trans e4
  have hbl := HBA.out.ext e14
  have h0 := hbl.cell 0 (v := .int .i64 5) rfl
  have h1 := hbl.cell 1 (v := .slice (some ⟨ra, ro, none⟩) 5 rc) rfl
  have k1 := hbl.lt
  have k8 := hb4.cell 8 (v := .slice none 0 0) rfl
  have f8 := hb4.free 8
  have HX4 := Lib.hid hb4
  have HE14 := Lib.hid e14
  clear c0 c1 c2 l1 x0 x1 x2 x3 x4 x5 x6 x7 x8 x9 x10 lx hx4 e4 hb4 e14 hbl y10
  obtain ⟨j0, hj, hj0, hj1, hj2⟩ := info_parts infoS
  obtain ⟨i0, hii, hii0, hii1, hii2⟩ := info_parts infoN
  have hmk : ∀ w : World, (Instr.makeSlice 115 (.int .i64 5) (.int .i64 5)).run Tryz.prog w = .ok (.slice (some ⟨w.heap.size, 0, none⟩) 5 5) (w.alloc (.cells (madeCells #[.slice none 0 0] 5) 40)) :=
    run_make_row' 115 40 (.slice none 0 0) 24 Tryz.underlying115 infoS rfl .i64 .i64 5 (by omega) (by first | omega | (unfold maxLen; omega))
  have ne8 : gx ≠ W4.heap.size := by omega
  go_wp2_with fail
  obtain ⟨gon, hgon⟩ : ∃ g, W4.heap.size = g := ⟨_, rfl⟩
  rw [hgon] at ne8 ⊢
  have hbx : BoxAt ((W4.setCell ⟨gx, 8, none⟩ (.slice (some ⟨gon, 0, none⟩) 5 5)).alloc (.cells (madeCells #[.slice none 0 0] 5) 40)) gx #[.int .i64 5, .slice (some ⟨ra, ro, none⟩) 5 rc, .int .i64 1, .int .i64 0, .int .i64 4, .int .i64 4, .int .i64 5, .slice none 0 0, .slice (some ⟨gon, 0, none⟩) 5 5, .int .i64 4, .int .i64 4] 264 := (HX4.out.set 8 (.slice (some ⟨gon, 0, none⟩) 5 5)).ext (Ext.alloc _ _)
  have hbo : BoxAt ((W4.setCell ⟨gx, 8, none⟩ (.slice (some ⟨gon, 0, none⟩) 5 5)).alloc (.cells (madeCells #[.slice none 0 0] 5) 40)) gon #[.slice none 0 0, .slice none 0 0, .slice none 0 0, .slice none 0 0, .slice none 0 0] 40 := by
    have := BoxAt.new (W4.setCell ⟨gx, 8, none⟩ (.slice (some ⟨gon, 0, none⟩) 5 5)) (madeCells #[.slice none 0 0] 5) 40
    rw [World.size_setCell, hgon] at this
    rw [show (#[.slice none 0 0, .slice none 0 0, .slice none 0 0, .slice none 0 0, .slice none 0 0] : Array Value) = madeCells #[.slice none 0 0] 5 from mk5]
    exact this
  have hbl : Below gx W1 ((W4.setCell ⟨gx, 8, none⟩ (.slice (some ⟨gon, 0, none⟩) 5 5)).alloc (.cells (madeCells #[.slice none 0 0] 5) 40)) :=
    Below.alloc (bel_set (show Below gx W1 W4 from by rw [← HGX.out]; exact HE14.out) (Nat.le_refl _) _ _) (by have := HX4.out.lt; simp; omega) _
  clear h0 h1 k1 k8 f8 hmk ly ne8
  generalize ((W4.setCell ⟨gx, 8, none⟩ (.slice (some ⟨gon, 0, none⟩) 5 5)).alloc (.cells (madeCells #[.slice none 0 0] 5) 40)) = W5 at *
  have hgxo : gx < gon := by rw [← hgon]; exact HX4.out.lt
  have hfam : FamR W5 gon (fun _ => .slice none 0 0) 0 := ⟨fun d _ => ⟨[], OwnG.nil, Nat.le_refl _⟩, fun _ _ _ _ _ => .inl rfl⟩
  have HW1 : Hid (Rows54 W1 ra ro rc q) := HRV
  have HBL := Lib.hid hbl
  clear HX4 HE14 HX3 HE13 HBX HE2 hgon hbl
  have hms : MS W5 gx gon (mCx ra ro rc gon (.slice none 0 0)) (fun _ => .slice none 0 0) 0 (.slice none 0 0) [] W5 := ⟨hgxo, Below.refl _ _, hfam, hbo, OwnG.nil, hbx, Nat.le_refl _⟩
  clear hfam hbo hbx
  go_loopw [108] (fun it wr => ∃ (k : Nat) (vs : Nat → Value) (rk : Value) (xs : List Value), k ≤ 5 ∧ it = .int .i64 k ∧ xs.length = k ∧ MS W5 gx gon (mCx ra ro rc gon rk) vs (8 * k) rk xs wr) (fun it _ => 5 - (intOf it).toNat)
  case atStart => exact ⟨0, _, _, _, by decide, rfl, rfl, hms⟩
  case round =>
    obtain ⟨k, vs, rk, xs, hk, rfl, hxs, hM⟩ := hrel
    have eW : Ext W1 wr := show Below W1.heap.size W1 wr from by rw [HGX.out]; exact Below.trans HBL.out hM.bel
    have HRr := HW1.out.ext eW
    have hb1 := HBA.out.ext eW
    have hz := hb1.lt
    have HM := Lib.hid hM
    by_cases hlt : k < 5
    · have hkI : (k : Int) < 5 := by omega
      have rkc := HRr.row k hlt
      have lk := HRr.blk k hlt
      have lra := HRr.lt
      have hkg : (q k).1 < W1.heap.size := HW1.out.blk k hlt
      have HC : Hid (∀ i, i < 4 → W1.cell? ⟨(q k).1, (q k).2.1 + i, none⟩ = some (.int .i64 ((eln k i : Nat) : Int))) := fun i hi => by have := HW1.out.cell k hlt i hi; rw [eln_cast hlt hi] at this; exact this
      have hkc : 4 ≤ (q k).2.2 := HRr.cl k hlt
      generalize q k = z at *
      obtain ⟨kb, ko, kc⟩ := z
      simp only at rkc lk hkg HC hkc
      clear HRr hb1 hM
      go_wp2
      clear rkc
      have HM5 := Lib.hid (HM.out.nil5)
      generalize wr = wo at *
      go_loopw [10, 115] (fun t10 it wr => ∃ (i : Nat) (vs' : Nat → Value), i ≤ 4 ∧ it = .int .i64 i ∧ t10 = vs' 5 ∧ MS W5 gx gon (mCx ra ro rc gon rk) vs' (8 * k + 2 * i) rk xs wr) (fun _ it _ => 4 - (intOf it).toNat)
      case atStart => exact ⟨0, _, by decide, rfl, rfl, HM5.out⟩
      case round =>
        obtain ⟨i, vs', hi, rfl, rfl, hM⟩ := hrel
        have eW3 : Ext W1 wr := show Below W1.heap.size W1 wr from by rw [HGX.out]; exact Below.trans HBL.out hM.bel
        have HM2 := Lib.hid hM
        by_cases hlt2 : i < 4
        · have hiI : (i : Int) < 4 := by omega
          have ci := (Below.cell eW3 (p := ⟨kb, ko + i, none⟩) hkg).trans (HC.out i hlt2)
          have lkb : kb < wr.heap.size := Nat.lt_of_lt_of_le hkg eW3.size
          have hd := eln_lt hlt hlt2
          have hik : i ≤ kc := by omega
          generalize eln k i = d at *
          obtain ⟨l5, hr5, hl5⟩ := hM.fam.row 5 (by decide)
          obtain ⟨a5, c5, h5⟩ := hr5.shape
          rw [h5] at hr5
          obtain ⟨ld, hrd, hld⟩ := hM.fam.row d (by omega)
          obtain ⟨ad, cd, hvd⟩ := hrd.shape
          have god := fam_cell hM.boxo hd
          rw [hvd] at god hrd
          have gx8 := hM.boxx.cell 8 (v := .slice (some ⟨gon, 0, none⟩) 5 5) rfl
          have lgo := hM.boxo.lt
          have lgx := hM.boxx.lt
          have HR5 := Lib.hid hr5
          have HRD := Lib.hid hrd
          have H5 := Lib.hid h5
          have HVD := Lib.hid hvd
          have hd5 : (d : Int) < 5 := by omega
          obtain ⟨n5, hn5⟩ : ∃ n, l5.length = n := ⟨_, rfl⟩
          obtain ⟨nd, hnd⟩ : ∃ n, ld.length = n := ⟨_, rfl⟩
          have hn5b : n5 ≤ 100 := by omega
          have HB5 : Hid (n5 ≤ 8 * k + 2 * i) := Lib.hid (by omega)
          have HB6 : Hid (nd ≤ 8 * k + 2 * i) := Lib.hid (by omega)
          have hndb : nd ≤ 100 := by omega
          have HGS := Lib.hid (show gon + 1 ≤ wr.heap.size from lgo)
          have HR6 : Hid ((wr.alloc (.cells #[.int .i64 (nd : Int)] 3)).ownsRow (gon + 1) 3 1 (.slice a5 n5 c5) n5 (l5.map encI)) := by have := HR5.out.ext (Ext.alloc wr (.cells #[.int .i64 (nd : Int)] 3)); unfold OwnI OwnG at this; rw [hn5] at this; exact this
          rw [hn5] at h5
          rw [hnd] at god
          have HN5 := Lib.hid hn5
          have HND := Lib.hid hnd
          rw [h5]
          clear hr5 hrd hvd h5 hM hn5 hnd hl5 hld
          go_wp2_with (at_builtin; refine wpList_append_one rfl _ _ _ rfl (gon + 1) 3 i0 (.int .i64 0) 8 Tryz.underlying40 hii hii0 hii1 hii2 rfl _ _ _ rfl HR6.out _ (.int .i64 (nd : Int)) rfl rfl (cell_new1 _ _ _) (by unfold maxLen; omega) (by omega) (by have := HGS.out; simp; omega) ?_; intro v7 w7 ho7 hg7 hat7)
          obtain ⟨a7, c7, rfl⟩ := own_shape ho7
          have hO7 : OwnI w7 (gon + 1) (.slice a7 (n5 + 1) c7) (l5 ++ [(nd : Int)]) := OwnG.snoc (by rw [HN5.out]; exact ho7)
          have HM7 := Lib.hid (HM2.out.app5 (Ext.alloc wr (.cells #[.int .i64 (nd : Int)] 3)) hO7 (by rw [List.length_append, HN5.out]; have := HB5.out; simp; omega) (by rw [H5.out, HN5.out]; exact hg7) (by rw [H5.out, HN5.out]; exact hat7))
          have hvd7 : updF vs' 5 (.slice a7 (n5 + 1) c7) d = .slice ad nd cd := by unfold updF; rw [if_neg (by omega), HVD.out, HND.out]
          have HV7 := Lib.hid hvd7
          have hrd7 := HM7.out.fam.row d (by omega)
          rw [hvd7] at hrd7
          have HU5 : Hid (updF vs' 5 (.slice a7 (n5 + 1) c7) 5 = .slice a7 (n5 + 1) c7) := rfl
          clear ho7 hg7 hat7 HR6 HR5 H5 hO7 HRD HVD god gx8 lgo lgx hvd7 HM2 HN5 ci HGS
          generalize updF vs' 5 (.slice a7 (n5 + 1) c7) = vs7 at *
          have god7 := fam_cell HM7.out.boxo hd
          rw [HV7.out] at god7
          have gx87 := HM7.out.boxx.cell 8 (v := .slice (some ⟨gon, 0, none⟩) 5 5) rfl
          have lgo7 := HM7.out.boxo.lt
          have lgx7 := HM7.out.boxx.lt
          obtain ⟨ld7, hrd7, hld7⟩ := hrd7
          have hnd7 : ld7.length = nd := by
            obtain ⟨a, c, he⟩ := hrd7.shape
            injection he with h1 h2 h3
            exact h2.symm
          have HRD7 := Lib.hid hrd7
          have HND7 := Lib.hid hnd7
          have hk5 : k ≤ 100 := by omega
          clear hrd7 hld7 hnd7
          go_wp2_with fail
          refine wp_region_fix (fun w' => w'.cell? ⟨gx, 8, none⟩ = some (.slice (some ⟨gon, 0, none⟩) 5 5) ∧ w'.cell? ⟨gon, d, none⟩ = some (.slice ad nd cd)) [(0, true), (1, true), (2, true), (3, true), (4, true), (5, true), (6, true), (7, true), (8, true), (9, false), (10, false), (11, true), (12, false)] (by kernel_rfl) (by kernel_rfl) ?_ ?_
          · exact ⟨gx87, god7⟩
          iterate 9 ((first
           | refine fix_move rfl rfl (by rfl) (by rfl) ?_
           | (apply fix_take rfl (by rfl)
              · intro w' hSc
                go_simp
                (try simp (disch := omega) only [i64_id, u64_id, ↓IntWalk.iteOmega, Int.tdiv_eq_ediv_of_nonneg, Int.tmod_eq_emod_of_nonneg])
                try rfl)
           | refine fix_pass rfl (by rfl) ?_); simp only [Act.put, setZa, setZ0, setZ1])
          have hx8 : Ext w7 (w7.alloc (.cells #[.int .i64 (k : Int)] 3)).drew := (Ext.alloc _ _).trans (Ext.drew _)
          refine fix_do rfl (by rfl) (fun K hK => ?_)
          go_simp
          refine hK _ _ ⟨(hx8.cell _ _ lgx7).trans gx87, (hx8.cell _ _ lgo7).trans god7⟩ ?_
          clear hK K
          (try simp only [Act.put, setZa, setZ0, setZ1])
          have hb8 : BoxAt (w7.alloc (.cells #[.int .i64 (k : Int)] 3)).drew w7.heap.size #[.int .i64 (k : Int)] 3 := (BoxAt.new _ _ _).ext (Ext.drew _)
          have ho8 : (w7.alloc (.cells #[.int .i64 (k : Int)] 3)).drew.ownsRow (gon + 1) 3 1 (.slice ad nd cd) nd (ld7.map encI) := by
            have := HRD7.out.ext hx8
            unfold OwnI OwnG at this
            rw [HND7.out] at this
            exact this
          generalize (w7.alloc (.cells #[.int .i64 (k : Int)] 3)).drew = w8 at *
          refine fix_do rfl (by rfl) (fun K hK => ?_)
          refine wp_of_list rfl ?_
          refine wpList_append_one rfl _ _ _ rfl (gon + 1) 3 i0 (.int .i64 0) 8 Tryz.underlying40 hii hii0 hii1 hii2 rfl _ _ _ rfl ho8 _ (.int .i64 (k : Int)) rfl rfl (hb8.cell 0 rfl) (by unfold maxLen; omega) (by omega) (by have := hx8.size; omega) ?_
          intro v9 w9 ho9 hg9 hat9
          obtain ⟨a9, c9, rfl⟩ := own_shape ho9
          have hO9 : OwnI w9 (gon + 1) (.slice a9 (nd + 1) c9) (ld7 ++ [(k : Int)]) := OwnG.snoc (by rw [HND7.out]; exact ho9)
          have hlen9 : (ld7 ++ [(k : Int)]).length ≤ 8 * k + 2 * i + 1 + 1 := by rw [List.length_append, HND7.out]; have := HB6.out; simp; omega
          have hg9' : w8.grownBy w9 (vs7 d).ownBlock := by rw [HV7.out]; exact hg9
          have hat9' : (Value.slice a9 (nd + 1) c9).ownBlock = (vs7 d).ownBlock ∨ (Value.slice a9 (nd + 1) c9).ownBlock = some w8.heap.size := by rw [HV7.out]; exact hat9
          have HM9 := Lib.hid (HM7.out.put hd hx8 hO9 hlen9 hg9' hat9')
          obtain ⟨_, _, bo9, _, bx9, _⟩ := HM7.out.app (by omega) hx8 hO9 hlen9 hg9' hat9'
          have god9 := fam_cell bo9 hd
          rw [HV7.out] at god9
          have fgo9 := bo9.free d
          have lgo9 := bo9.lt
          have gx89 := bx9.cell 8 (v := .slice (some ⟨gon, 0, none⟩) 5 5) rfl
          have HU9 : Hid (updF vs7 d (.slice a9 (nd + 1) c9) 5 = .slice a7 (n5 + 1) c7) := Lib.hid (by unfold updF; rw [if_neg (by omega)]; exact HU5.out)
          refine hK _ _ ⟨gx89, god9⟩ ?_
          clear hK K ho9 hg9 hat9 hO9 hlen9 hg9' hat9' bo9 bx9 hb8 ho8 hx8 god7 gx87 lgo7 lgx7
          (try simp only [Act.put, setZa, setZ0, setZ1])
          ((first
           | refine fix_move rfl rfl (by rfl) (by rfl) ?_
           | (apply fix_take rfl (by rfl)
              · intro w' hSc
                go_simp
                (try simp (disch := omega) only [i64_id, u64_id, ↓IntWalk.iteOmega, Int.tdiv_eq_ediv_of_nonneg, Int.tmod_eq_emod_of_nonneg])
                try rfl)
           | refine fix_pass rfl (by rfl) ?_); simp only [Act.put, setZa, setZ0, setZ1])
          refine fix_last rfl (by rfl) (by kernel_rfl) (fun K hK => ?_)
          go_simp
          refine hK _ _ ?_
          clear hK K
          (try simp only [Act.put, setZa, setZ0, setZ1])
          go_wp2
          go_roundw
          case rel => exact ⟨i + 1, _, by omega, by go_num, HU9.out.symm, HM9.out.more (by omega)⟩
          case measure => simp [intOf]; omega
        · have hiI : ¬ ((i : Int) < 4) := by omega
          have hi4 : i = 4 := by omega
          subst hi4
          obtain ⟨ak, ck, hk7⟩ := hM.row.shape
          obtain ⟨l5, hr5, hl5⟩ := hM.fam.row 5 (by decide)
          obtain ⟨a5, c5, h5⟩ := hr5.shape
          obtain ⟨n5, hn5⟩ : ∃ n, l5.length = n := ⟨_, rfl⟩
          rw [hxs] at hk7
          rw [hn5] at h5
          have hc7 := hM.boxx.cell 7 (v := rk) rfl
          have hf7 := hM.boxx.free 7
          have lgx := hM.boxx.lt
          have hk100 : k ≤ 100 := by omega
          have HRW : Hid ((wr.alloc (.cells #[.slice a5 n5 c5] 40)).ownsRow (gon + 1) 40 1 rk k (xs.map id)) := by have := hM.row.ext (Ext.alloc wr (.cells #[.slice a5 n5 c5] 40)); unfold OwnG at this; rw [hxs] at this; exact this
          have HXS := Lib.hid hxs
          have HGL := Lib.hid (show gon + 1 ≤ wr.heap.size from hM.boxo.lt)
          rw [h5]
          clear hM hr5 hl5 h5 hn5 hxs
          rw [hk7] at hc7
          go_wp2_with (at_builtin; refine Classical.byContradiction (fun hNN => ?_); refine hNN ?_; clear hNN; refine wpList_append_one rfl _ _ _ rfl (gon + 1) 40 j0 (.slice none 0 0) 24 Tryz.underlying115 hj hj0 hj1 hj2 rfl _ _ _ rfl (hk7 ▸ HRW.out) _ (.slice a5 n5 c5) rfl rfl (cell_new1 _ _ _) (by unfold maxLen; omega) (by omega) (by have := HGL.out; simp; omega) ?_; intro v7 w7 ho7 hg7 hat7; obtain ⟨a7, c7, rfl⟩ := own_shape ho7; have hB7 := (HM2.out.boxx.ext (Ext.alloc wr (.cells #[.slice a5 n5 c5] 40))).grown hg7 (fun hb => by have := (HM2.out.row.lt gx (by rw [hk7]; exact hb.symm)).1; have := HM2.out.lt; omega); have c7c := hB7.cell 7 (v := rk) rfl; rw [hk7] at c7c; have f7 := hB7.free 7; have l7 := hB7.lt)
          have HMR := HM2.out.rank (Ext.alloc wr (.cells #[.slice a5 n5 c5] 40)) (y := .slice a5 n5 c5) (v' := .slice a7 (k + 1) c7) (OwnG.snoc (by rw [HXS.out]; exact ho7)) (by rw [hk7]; exact hg7)
          go_roundw
          case rel => exact ⟨k + 1, vs', .slice a7 (k + 1) c7, _, by omega, by go_num, by rw [List.length_append, HXS.out]; rfl, HMR.more (by omega)⟩
          case measure => simp [intOf]; omega
    · have hkI : ¬ ((k : Int) < 5) := by omega
      have hk5 : k = 5 := by omega
      subst hk5
      obtain ⟨ak, ck, hk7⟩ := hM.row.shape
      rw [hxs] at hk7
      subst hk7
      have hbx : BoxAt wr gx (numC (.slice (some ⟨ra, ro, none⟩) 5 rc) (.slice ak 5 ck) (.slice (some ⟨gon, 0, none⟩) 5 5) 4 4) 264 := hM.boxx
      have hb2 := HBB.out.ext eW
      clear hM HRr hb1 hz
      go_wp2_with first | (refine wpList_loadR 264 _ rfl (by rfl) rfl (box_load0 hbx Tryz.underlying264 rfl (by kernel_rfl)) ?_) | (refine wpList_store_box 264 _ _ rfl (by rfl) rfl rfl hb2 rfl (by kernel_rfl) (by simp [Value.oneCell']) ?_; intro w9 hS9)
      refine bodyPost_ret (results_cell_tmpA rfl _ _ rfl (box_result hS9.box Tryz.underlying264 rfl (by kernel_rfl))) rfl ⟨ak, 5, ck, some ⟨gon, 0, none⟩, 5, 5, rfl, ?_⟩
      exact hS9.bel (show Below w.heap.size w wr from HE1.out.trans eW) (by have := HG1.out; have := HG2.out; omega)
end Go.Proofs.YtjabgpejmnpamaaGreatDoor

namespace Go.Proofs.YtjabgpejmnpamaaGreatDoor
open Go.RowKit
set_option maxRecDepth 100000
set_option maxHeartbeats 4000000 in
theorem groups_any (ra ro rc : Nat) (q : Nat → Nat × Nat × Nat) (w : World) (h : Rows54 w ra ro rc q) :
    Calls Tryz.prog 103 #[.agg #[.int .i64 5, .slice (some ⟨ra, ro, none⟩) 5 rc, .int .i64 1, .int .i64 0]] w fun e w' => e = .returned (.int .i64 5) ∧ Ext w w' := by
  have HR := Lib.hid h
  clear h
  go_enter Tryz.func103, Tryz.ntmps103
  have hb1 := BoxAt.new w #[.int .i64 5, .slice (some ⟨ra, ro, none⟩) 5 rc, .int .i64 1, .int .i64 0] 122
  have HB1 := Lib.hid hb1
  clear hb1
  go_wp2_with first | (go_at_call 155; refine (measure_any ra ro rc q _ (HR.out.ext (Ext.alloc _ _))).mono ?_; rintro e W1 ⟨a2, n2, c2, a3, n3, c3, rfl, hx1⟩; have HX1 := Lib.hid hx1; clear hx1) | (refine wpList_store_box 264 _ _ rfl (by rfl) rfl rfl (BoxAt.new W1 #[.int .i64 0, .slice none 0 0, .int .i64 0, .int .i64 0, .int .i64 0, .int .i64 0, .int .i64 0, .slice none 0 0, .slice none 0 0, .int .i64 0, .int .i64 0] 264) rfl (by kernel_rfl) (by simp [Value.oneCell']) ?_; intro W2 hS2; have HS2 := Lib.hid hS2; clear hS2) | (refine wpList_loadR 264 _ rfl (by rfl) rfl (box_load0 HS2.out.box Tryz.underlying264 rfl (by kernel_rfl)) ?_) | (go_at_call 156; refine (lgroups_any (some ⟨ra, ro, none⟩) a2 a3 5 n2 n3 rc c2 c3 4 4 _).mono ?_; rintro e W3 ⟨rfl, hx3⟩)
  go_ret
  exact ⟨rfl, ((show Ext w W2 from HS2.out.bel ((Ext.alloc _ _).trans (HX1.out.trans (Ext.alloc _ _))) (by have := HX1.out.size; simp at this; omega))).trans hx3⟩
set_option maxHeartbeats 4000000 in
theorem data_any (ra ro rc : Nat) (q : Nat → Nat × Nat × Nat) (w : World) (h : Rows54 w ra ro rc q) :
    Calls Tryz.prog 104 #[.agg #[.int .i64 5, .slice (some ⟨ra, ro, none⟩) 5 rc, .int .i64 1, .int .i64 0]] w fun e w' => e = .returned (.int .i64 1) ∧ Ext w w' := by
  have HR := Lib.hid h
  clear h
  go_enter Tryz.func104, Tryz.ntmps104
  have hb1 := BoxAt.new w #[.int .i64 5, .slice (some ⟨ra, ro, none⟩) 5 rc, .int .i64 1, .int .i64 0] 122
  have HB1 := Lib.hid hb1
  clear hb1
  go_wp2_with first | (go_at_call 155; refine (measure_any ra ro rc q _ (HR.out.ext (Ext.alloc _ _))).mono ?_; rintro e W1 ⟨a2, n2, c2, a3, n3, c3, rfl, hx1⟩; have HX1 := Lib.hid hx1; clear hx1) | (refine wpList_store_box 264 _ _ rfl (by rfl) rfl rfl (BoxAt.new W1 #[.int .i64 0, .slice none 0 0, .int .i64 0, .int .i64 0, .int .i64 0, .int .i64 0, .int .i64 0, .slice none 0 0, .slice none 0 0, .int .i64 0, .int .i64 0] 264) rfl (by kernel_rfl) (by simp [Value.oneCell']) ?_; intro W2 hS2; have HS2 := Lib.hid hS2; clear hS2) | (refine wpList_loadR 264 _ rfl (by rfl) rfl (box_load0 HS2.out.box Tryz.underlying264 rfl (by kernel_rfl)) ?_) | (go_at_call 157; refine (ldata_any (some ⟨ra, ro, none⟩) a2 a3 5 n2 n3 rc c2 c3 4 4 _).mono ?_; rintro e W3 ⟨rfl, hx3⟩)
  go_ret
  exact ⟨rfl, ((show Ext w W2 from HS2.out.bel ((Ext.alloc _ _).trans (HX1.out.trans (Ext.alloc _ _))) (by have := HX1.out.size; simp at this; omega))).trans hx3⟩
set_option maxHeartbeats 4000000 in
theorem slots_any (ra ro rc : Nat) (q : Nat → Nat × Nat × Nat) (w : World) (h : Rows54 w ra ro rc q) :
    Calls Tryz.prog 52 #[.agg #[.int .i64 5, .slice (some ⟨ra, ro, none⟩) 5 rc, .int .i64 1, .int .i64 0]] w fun e w' => e = .returned (.int .i64 5) ∧ Ext w w' := by
  have HR := Lib.hid h
  clear h
  go_enter Tryz.func52, Tryz.ntmps52
  go_wp2_with fail
  have hz : w.heap.size < (w.alloc (.cells #[.int .i64 5, .slice (some ⟨ra, ro, none⟩) 5 rc, .int .i64 1, .int .i64 0] 122)).heap.size := by simp
  generalize hW : w.alloc (.cells #[.int .i64 5, .slice (some ⟨ra, ro, none⟩) 5 rc, .int .i64 1, .int .i64 0] 122) = W at *
  have c0 : W.cell? ⟨w.heap.size, 0, none⟩ = some (.int .i64 5) := by rw [← hW]; simp
  have c1 : W.cell? ⟨w.heap.size, 1, none⟩ = some (.slice (some ⟨ra, ro, none⟩) 5 rc) := by rw [← hW]; simp
  have c2 : W.cell? ⟨w.heap.size, 2, none⟩ = some (.int .i64 1) := by rw [← hW]; simp
  have c3 : W.cell? ⟨w.heap.size, 3, none⟩ = some (.int .i64 0) := by rw [← hW]; simp
  have hxW : Ext w W := by rw [← hW]; exact Ext.alloc _ _
  have hbF : ∀ o, W.frozen? ⟨w.heap.size, o, none⟩ = false := fun o => by rw [← hW]; simp
  have HBF := Lib.hid hbF
  clear hW hbF
  have HRW := Lib.hid (HR.out.ext hxW)
  have HXW := Lib.hid hxW
  clear hxW
  refine wp_region_ext [(0, true), (2, true), (1, false), (3, false), (4, true), (5, true)] (by kernel_rfl) (by kernel_rfl) ?_
  iterate 2 ((first
   | refine ext_move rfl rfl (by rfl) (by rfl) ?_
   | refine ext_assign rfl rfl (by rfl) (by rfl) ?_
   | refine ext_pick_t rfl rfl (by rfl) (by rfl) (by rfl) ?_
   | refine ext_pick_f rfl rfl (by rfl) (by rfl) (by rfl) ?_
   | (apply ext_take rfl (by rfl)
      · intro w' hS
        have hSc := hS.cells
        (try simp only [World.size_drew, World.cell?_drew] at hSc)
        go_simp
        (try simp (disch := omega) only [i64_id, u64_id, ↓IntWalk.iteOmega, Int.tdiv_eq_ediv_of_nonneg, Int.tmod_eq_emod_of_nonneg])
        try rfl)
   | refine ext_pass rfl (by rfl) ?_); simp only [Act.put, setZa, setZ0, setZ1])
  (refine ext_do rfl (by rfl) (fun K hK => ?_)
   go_simp
   go_at_call 103
   refine (groups_any ra ro rc q _ (HRW.out.ext (by first | exact Ext.drew _ | exact (Ext.drew _).trans (Ext.refl _)))).mono ?_
   rintro e W1 ⟨rfl, hx1⟩
   refine hK _ _ (Ext.trans (by first | exact Ext.drew _ | exact Ext.refl _) hx1) ?_
   clear hK K
   (try simp only [Act.put, setZa, setZ0, setZ1]))
  (refine ext_do rfl (by rfl) (fun K hK => ?_)
   go_simp
   go_at_call 104
   refine (data_any ra ro rc q _ (HRW.out.ext ((Ext.drew _).trans hx1))).mono ?_
   rintro e W2 ⟨rfl, hx2⟩
   refine hK _ _ hx2 ?_
   clear hK K
   (try simp only [Act.put, setZa, setZ0, setZ1]))
  iterate 2 ((first
   | refine ext_move rfl rfl (by rfl) (by rfl) ?_
   | refine ext_assign rfl rfl (by rfl) (by rfl) ?_
   | refine ext_pick_t rfl rfl (by rfl) (by rfl) (by rfl) ?_
   | refine ext_pick_f rfl rfl (by rfl) (by rfl) (by rfl) ?_
   | (apply ext_take rfl (by rfl)
      · intro w' hS
        have hSc := hS.cells
        (try simp only [World.size_drew, World.cell?_drew] at hSc)
        go_simp
        (try simp (disch := omega) only [i64_id])
        try rfl)
   | refine ext_pass rfl (by rfl) ?_); simp only [Act.put, setZa, setZ0, setZ1])
  refine ext_nil ?_
  go_wp2_with fail
  go_ret
  exact ⟨rfl, HXW.out.trans (((Ext.drew _).trans hx1).trans hx2)⟩
end Go.Proofs.YtjabgpejmnpamaaGreatDoor

namespace Go.Proofs.YtjabgpejmnpamaaGreatDoor
open Go.RowKit
theorem cell_enc (c : BitVec 8) : Extern.Stop.cell (UInt8.ofBitVec c) = encB c := by
  show Value.int .u8 _ = Value.int .u8 _
  unfold ub; simp
theorem map_cell (l : List (BitVec 8)) : (l.map fun c => UInt8.ofBitVec c).map Extern.Stop.cell = l.map encB := by
  rw [List.map_map]; exact List.map_congr_left fun c _ => cell_enc c
theorem ofBitVec_eq (xs ys : List (BitVec 8)) : ((xs.map fun c => UInt8.ofBitVec c) == ys.map fun c => UInt8.ofBitVec c) = decide (xs = ys) := by
  rw [Bool.eq_iff_iff, beq_iff_eq, decide_eq_true_eq]
  exact List.map_inj_right (fun x y e => by simpa using e)
def eqB (xs ys : List (BitVec 8)) : Bool := decide (xs = ys)
theorem eqB_iff {xs ys : List (BitVec 8)} : eqB xs ys = true ↔ xs = ys := by unfold eqB; simp
theorem eqB_self (xs : List (BitVec 8)) : eqB xs xs = true := eqB_iff.2 rfl
theorem run_equalIn_block {P : Program} (w : World) (d : Nat) {t e : TypeId} {n : Nat} (ht : P.underlying t = some (.array n e)) (he : P.underlying e = some (.int .u8)) (hsz : ∀ w, (sizeOf e).run P w = .ok 1 w)
    (xs ys : List (BitVec 8)) (hx : xs.length = n) (hy : ys.length = n) :
    (Op.equalIn (d + 2) t (.agg (xs.map encB).toArray) (.agg (ys.map encB).toArray)).run P w = .ok (eqB xs ys) w := by
  have := run_equalIn_bytes (P := P) w d t e n ht he hsz (xs.map fun c => UInt8.ofBitVec c) (ys.map fun c => UInt8.ofBitVec c) (by simpa using hx) (by simpa using hy)
  rw [map_cell, map_cell, ofBitVec_eq] at this
  exact this
end Go.Proofs.YtjabgpejmnpamaaGreatDoor

namespace Go.Proofs.YtjabgpejmnpamaaGreatDoor
open Go.RowKit
set_option maxRecDepth 100000
theorem below8 {p : Nat → Prop} (h0 : p 0) (h1 : p 1) (h2 : p 2) (h3 : p 3) (h4 : p 4) (h5 : p 5) (h6 : p 6) (h7 : p 7) : ∀ j, j < 8 → p j
  | 0, _ => h0 | 1, _ => h1 | 2, _ => h2 | 3, _ => h3 | 4, _ => h4 | 5, _ => h5 | 6, _ => h6 | 7, _ => h7
theorem blks_of_box {w : World} {g : Nat} {cs : Array Value} {t : TypeId} (h : BoxAt w g cs t) (ls : List (List (BitVec 8))) (n : Nat) (hn : ls.length = n) (hl : ∀ i (a : i < ls.length), ls[i].length = 8 ∧ ∀ j, j < 8 → cs[8 * i + j]? = some (encB (ls[i].getD j 0#8))) : BlksAt w (.slice (some ⟨g, 0, none⟩) n n) ls := by
  subst hn
  exact ⟨g, 0, _, rfl, Nat.le_refl _, h.lt, fun i hi => ⟨(hl i hi).1, fun j hj => by rw [Nat.zero_add]; exact h.cell _ ((hl i hi).2 j hj)⟩⟩
def one8 : List (BitVec 8) := [1#8, 0#8, 0#8, 0#8, 0#8, 0#8, 0#8, 0#8]
def two8 : List (BitVec 8) := [2#8, 0#8, 0#8, 0#8, 0#8, 0#8, 0#8, 0#8]
theorem back_two : combL ((wtsL 1).getD 0 0#8) ((wtsL 1).getD 1 0#8) (rowF one8 two8 (expG 0) [1, 0]) (rowF one8 two8 (expG 1) [1, 0]) = two8 := by decide +kernel
theorem five_blk (W : World) (n : Nat) (x0 x1 x2 x3 x4 x5 x6 x7 y0 y1 y2 y3 y4 y5 y6 y7 z0 z1 z2 z3 z4 z5 z6 z7 : BitVec 8) (hn : W.heap.size = n) :
    BlksAt (W.alloc (.cells (.int .u8 0 :: .int .u8 0 :: .int .u8 0 :: .int .u8 0 :: .int .u8 0 :: .int .u8 0 :: .int .u8 0 :: .int .u8 0 :: .int .u8 0 :: .int .u8 0 :: .int .u8 0 :: .int .u8 0 :: .int .u8 0 :: .int .u8 0 :: .int .u8 0 :: .int .u8 0 :: encB x0 :: encB x1 :: encB x2 :: encB x3 :: encB x4 :: encB x5 :: encB x6 :: encB x7 :: encB y0 :: encB y1 :: encB y2 :: encB y3 :: encB y4 :: encB y5 :: encB y6 :: encB y7 :: encB z0 :: encB z1 :: encB z2 :: encB z3 :: encB z4 :: encB z5 :: encB z6 :: encB z7 :: []).toArray 76)) (.slice (some ⟨n, 0, none⟩) 5 5) [zero8, zero8, [x0, x1, x2, x3, x4, x5, x6, x7], [y0, y1, y2, y3, y4, y5, y6, y7], [z0, z1, z2, z3, z4, z5, z6, z7]] := by
  subst hn
  exact blks_of_box (BoxAt.new _ _ _) _ 5 rfl (fun i hi => match i, hi with
      | 0, _ => ⟨rfl, below8 rfl rfl rfl rfl rfl rfl rfl rfl⟩
      | 1, _ => ⟨rfl, below8 rfl rfl rfl rfl rfl rfl rfl rfl⟩
      | 2, _ => ⟨rfl, below8 rfl rfl rfl rfl rfl rfl rfl rfl⟩
      | 3, _ => ⟨rfl, below8 rfl rfl rfl rfl rfl rfl rfl rfl⟩
      | 4, _ => ⟨rfl, below8 rfl rfl rfl rfl rfl rfl rfl rfl⟩)
theorem size8u : ∀ w, (sizeOf 5).run Tryz.prog w = .ok 1 w := fun w => by kernel_rfl
theorem eq_two (w : World) : (Op.equalIn 10000 76 (.agg #[.int .u8 2, .int .u8 0, .int .u8 0, .int .u8 0, .int .u8 0, .int .u8 0, .int .u8 0, .int .u8 0]) (.agg #[.int .u8 2, .int .u8 0, .int .u8 0, .int .u8 0, .int .u8 0, .int .u8 0, .int .u8 0, .int .u8 0])).run Tryz.prog w = .ok true w := by
  have h := run_equalIn_block (P := Tryz.prog) w 9998 Tryz.underlying76 Tryz.underlying5 size8u two8 two8 rfl rfl
  rw [eqB_self] at h
  exact h
theorem five_bool (W : World) (n : Nat) (hn : W.heap.size = n) : SliceAt Value.bool (W.alloc (.cells #[.bool true, .bool true, .bool false, .bool false, .bool false] 4)) (.slice (some ⟨n, 0, none⟩) 5 5) [true, true, false, false, false] := by
  subst hn
  exact SliceAt.lit _ [true, true, false, false, false] _ _ _ rfl
set_option maxHeartbeats 4000000 in
theorem awake25_any (w : World) : Calls Tryz.prog 22 #[] w fun e w' => e = .returned (.bool true) ∧ Ext w w' := by
  go_enter Tryz.func22, Tryz.ntmps22
  have HB0 : Hid (BlksAt (w.alloc (.cells #[.int .u8 1, .int .u8 0, .int .u8 0, .int .u8 0, .int .u8 0, .int .u8 0, .int .u8 0, .int .u8 0, .int .u8 2, .int .u8 0, .int .u8 0, .int .u8 0, .int .u8 0, .int .u8 0, .int .u8 0, .int .u8 0] 76)) (.slice (some ⟨w.heap.size, 0, none⟩) 2 2) [one8, two8]) :=
    blks_of_box (BoxAt.new _ _ _) _ 2 rfl (fun i hi => match i, hi with
      | 0, _ => ⟨rfl, below8 rfl rfl rfl rfl rfl rfl rfl rfl⟩
      | 1, _ => ⟨rfl, below8 rfl rfl rfl rfl rfl rfl rfl rfl⟩)
  go_wp2_with (go_at_call 49; refine (pencode_any _ 0 2 one8 two8 _ HB0.out).mono ?_; rintro e W1 ⟨g, rfl, ho, hx1⟩; have HO := Lib.hid ho.blks; have HX1 := Lib.hid (show Ext w W1 from (Ext.alloc _ _).trans hx1); have lg : g < W1.heap.size := (by obtain ⟨_, hb, _⟩ := ho; exact hb.lt); clear ho hx1)
  have l0 : (rowF one8 two8 (expG 0) [1, 0]).length = 8 := rowF_len rfl rfl _
  have l1 : (rowF one8 two8 (expG 1) [1, 0]).length = 8 := rowF_len rfl rfl _
  have l2 : (rowF one8 two8 (expG 2) [1, 0]).length = 8 := rowF_len rfl rfl _
  have HBT := Lib.hid back_two
  generalize rowF one8 two8 (expG 0) [1, 0] = R0 at *
  generalize rowF one8 two8 (expG 1) [1, 0] = R1 at *
  generalize rowF one8 two8 (expG 2) [1, 0] = R2 at *
  obtain ⟨x0, x1, x2, x3, x4, x5, x6, x7, rfl⟩ := arr_cases l0
  obtain ⟨y0, y1, y2, y3, y4, y5, y6, y7, rfl⟩ := arr_cases l1
  obtain ⟨z0, z1, z2, z3, z4, z5, z6, z7, rfl⟩ := arr_cases l2
  clear l0 l1 l2
  have h0 : ∀ w', Ext W1 w' → (Instr.loadAt 76 (.pointer (some ⟨g, 0, none⟩))).run Tryz.prog w' = .ok (.agg #[encB x0, encB x1, encB x2, encB x3, encB x4, encB x5, encB x6, encB x7]) w' := fun w' e => (HO.out.ext e).load 0 (by simp)
  have h1 : ∀ w', Ext W1 w' → (Instr.loadAt 76 (.pointer (some ⟨g, 8, none⟩))).run Tryz.prog w' = .ok (.agg #[encB y0, encB y1, encB y2, encB y3, encB y4, encB y5, encB y6, encB y7]) w' := fun w' e => (HO.out.ext e).load 1 (by simp)
  have h2 : ∀ w', Ext W1 w' → (Instr.loadAt 76 (.pointer (some ⟨g, 16, none⟩))).run Tryz.prog w' = .ok (.agg #[encB z0, encB z1, encB z2, encB z3, encB z4, encB z5, encB z6, encB z7]) w' := fun w' e => (HO.out.ext e).load 2 (by simp)
  go_wp2_with fail
  refine wp_region_extT (.take 0 (.take 1 (.take 2 (.take 3 (.take 4 (.take 5 (.take 6 (.take 7 (.take 8 (.take 9 (.take 10 (.two 11 12 (.one 12 (.one 13 (.take 14 (.take 15 (.take 16 (.take 17 (.take 18 .done))))))) (.one 11 (.one 13 (.take 14 (.take 15 (.take 16 (.take 17 (.take 18 .done))))))))))))))))))) (by kernel_rfl) (by kernel_rfl) ?_
  iterate 4 ((first
   | refine extT_move rfl rfl (by rfl) (by rfl) ?_
   | refine extT_assign rfl rfl (by rfl) (by rfl) ?_
   | refine extT_pick_t rfl rfl (by rfl) (by rfl) (by rfl) ?_
   | refine extT_pick_f rfl rfl (by rfl) (by rfl) (by rfl) ?_
   | (apply extT_take rfl (by rfl)
      · intro w' hS
        have hSc := hS.cells
        (try simp only [World.size_drew, World.cell?_drew] at hSc)
        go_simp
        (try simp (disch := omega) only [i64_id, u64_id, ↓IntWalk.iteOmega, Int.tdiv_eq_ediv_of_nonneg, Int.tmod_eq_emod_of_nonneg])
        try rfl)
   | refine extT_pass rfl (by rfl) ?_); simp only [Act.put, setZa, setZ0, setZ1])
  (refine extT_load 76 rfl rfl (by rfl) (by rfl) h0 ?_; simp only [Act.put, setZa, setZ0, setZ1])
  iterate 2 ((first
   | refine extT_move rfl rfl (by rfl) (by rfl) ?_
   | refine extT_assign rfl rfl (by rfl) (by rfl) ?_
   | refine extT_pick_t rfl rfl (by rfl) (by rfl) (by rfl) ?_
   | refine extT_pick_f rfl rfl (by rfl) (by rfl) (by rfl) ?_
   | (apply extT_take rfl (by rfl)
      · intro w' hS
        have hSc := hS.cells
        (try simp only [World.size_drew, World.cell?_drew] at hSc)
        go_simp
        (try simp (disch := omega) only [i64_id, u64_id, ↓IntWalk.iteOmega, Int.tdiv_eq_ediv_of_nonneg, Int.tmod_eq_emod_of_nonneg])
        try rfl)
   | refine extT_pass rfl (by rfl) ?_); simp only [Act.put, setZa, setZ0, setZ1])
  (refine extT_load 76 rfl rfl (by rfl) (by rfl) h1 ?_; simp only [Act.put, setZa, setZ0, setZ1])
  iterate 2 ((first
   | refine extT_move rfl rfl (by rfl) (by rfl) ?_
   | refine extT_assign rfl rfl (by rfl) (by rfl) ?_
   | refine extT_pick_t rfl rfl (by rfl) (by rfl) (by rfl) ?_
   | refine extT_pick_f rfl rfl (by rfl) (by rfl) (by rfl) ?_
   | (apply extT_take rfl (by rfl)
      · intro w' hS
        have hSc := hS.cells
        (try simp only [World.size_drew, World.cell?_drew] at hSc)
        go_simp
        (try simp (disch := omega) only [i64_id, u64_id, ↓IntWalk.iteOmega, Int.tdiv_eq_ediv_of_nonneg, Int.tmod_eq_emod_of_nonneg])
        try rfl)
   | refine extT_pass rfl (by rfl) ?_); simp only [Act.put, setZa, setZ0, setZ1])
  (refine extT_load 76 rfl rfl (by rfl) (by rfl) h2 ?_; simp only [Act.put, setZa, setZ0, setZ1])
  refine extT_two rfl rfl (by rfl) (by rfl) (fun K hK => ?_) (fun K hK => ?_)
  go_simp
  refine hK _ _ (by first | exact Ext.alloc _ _ | exact (Ext.drew _).trans (Ext.alloc _ _) | exact (Ext.alloc _ _).trans (Ext.drew _)) ?_
  clear hK K
  (try simp only [Act.put, setZa, setZ0, setZ1])
  refine extT_do rfl (by rfl) (fun K hK => ?_)
  go_simp
  refine hK _ _ (by first | exact Ext.alloc _ _ | exact (Ext.drew _).trans (Ext.alloc _ _) | exact (Ext.alloc _ _).trans (Ext.drew _)) ?_
  clear hK K
  (try simp only [Act.put, setZa, setZ0, setZ1])
  refine extT_do rfl (by rfl) (fun K hK => ?_)
  go_simp
  go_at_call 50
  refine (decode_any _ _ zero8 zero8 [x0, x1, x2, x3, x4, x5, x6, x7] [y0, y1, y2, y3, y4, y5, y6, y7] [z0, z1, z2, z3, z4, z5, z6, z7] _ (by first | exact five_blk _ _ _ _ _ _ _ _ _ _ _ _ _ _ _ _ _ _ _ _ _ _ _ _ _ _ (by first | rfl | (simp; done)) | exact (five_blk _ _ _ _ _ _ _ _ _ _ _ _ _ _ _ _ _ _ _ _ _ _ _ _ _ _ (by first | rfl | (simp; done))).ext (Ext.alloc _ _) | exact (five_blk _ _ _ _ _ _ _ _ _ _ _ _ _ _ _ _ _ _ _ _ _ _ _ _ _ _ (by first | rfl | (simp; done))).ext (Ext.drew _) | exact (five_blk _ _ _ _ _ _ _ _ _ _ _ _ _ _ _ _ _ _ _ _ _ _ _ _ _ _ (by first | rfl | (simp; done))).ext ((Ext.alloc _ _).trans (Ext.drew _))) (by first | exact five_bool _ _ (by first | rfl | (simp; done)) | exact (five_bool _ _ (by first | rfl | (simp; done))).ext (Ext.alloc _ _) | exact (five_bool _ _ (by first | rfl | (simp; done))).ext (Ext.drew _) | exact (five_bool _ _ (by first | rfl | (simp; done))).ext ((Ext.alloc _ _).trans (Ext.drew _)))).mono ?_
  rintro e W2 ⟨g2, c2, rfl, lg2, hc2, hx2⟩
  refine hK _ _ hx2 ?_
  clear hK K
  (try simp only [Act.put, setZa, setZ0, setZ1])
  iterate 5 ((first
   | refine extT_move rfl rfl (by rfl) (by rfl) ?_
   | refine extT_assign rfl rfl (by rfl) (by rfl) ?_
   | refine extT_pick_t rfl rfl (by rfl) (by rfl) (by rfl) ?_
   | refine extT_pick_f rfl rfl (by rfl) (by rfl) (by rfl) ?_
   | (apply extT_take rfl (by rfl)
      · intro w' hS
        have hSc := hS.cells
        (try simp only [World.size_drew, World.cell?_drew] at hSc)
        go_simp
        (try simp (disch := omega) only [i64_id, u64_id, ↓IntWalk.iteOmega, Int.tdiv_eq_ediv_of_nonneg, Int.tmod_eq_emod_of_nonneg])
        try rfl)
   | refine extT_pass rfl (by rfl) ?_); simp only [Act.put, setZa, setZ0, setZ1])
  refine extT_nil ?_
  skip
  rotate_left
  go_simp
  refine hK _ _ (by first | exact Ext.alloc _ _ | exact (Ext.drew _).trans (Ext.alloc _ _) | exact (Ext.alloc _ _).trans (Ext.drew _)) ?_
  clear hK K
  (try simp only [Act.put, setZa, setZ0, setZ1])
  refine extT_do rfl (by rfl) (fun K hK => ?_)
  go_simp
  refine hK _ _ (by first | exact Ext.alloc _ _ | exact (Ext.drew _).trans (Ext.alloc _ _) | exact (Ext.alloc _ _).trans (Ext.drew _)) ?_
  clear hK K
  (try simp only [Act.put, setZa, setZ0, setZ1])
  refine extT_do rfl (by rfl) (fun K hK => ?_)
  go_simp
  go_at_call 50
  refine (decode_any _ _ zero8 zero8 [x0, x1, x2, x3, x4, x5, x6, x7] [y0, y1, y2, y3, y4, y5, y6, y7] [z0, z1, z2, z3, z4, z5, z6, z7] _ (by first | exact five_blk _ _ _ _ _ _ _ _ _ _ _ _ _ _ _ _ _ _ _ _ _ _ _ _ _ _ (by first | rfl | (simp; done)) | exact (five_blk _ _ _ _ _ _ _ _ _ _ _ _ _ _ _ _ _ _ _ _ _ _ _ _ _ _ (by first | rfl | (simp; done))).ext (Ext.alloc _ _) | exact (five_blk _ _ _ _ _ _ _ _ _ _ _ _ _ _ _ _ _ _ _ _ _ _ _ _ _ _ (by first | rfl | (simp; done))).ext (Ext.drew _) | exact (five_blk _ _ _ _ _ _ _ _ _ _ _ _ _ _ _ _ _ _ _ _ _ _ _ _ _ _ (by first | rfl | (simp; done))).ext ((Ext.alloc _ _).trans (Ext.drew _))) (by first | exact five_bool _ _ (by first | rfl | (simp; done)) | exact (five_bool _ _ (by first | rfl | (simp; done))).ext (Ext.alloc _ _) | exact (five_bool _ _ (by first | rfl | (simp; done))).ext (Ext.drew _) | exact (five_bool _ _ (by first | rfl | (simp; done))).ext ((Ext.alloc _ _).trans (Ext.drew _)))).mono ?_
  rintro e W2 ⟨g2, c2, rfl, lg2, hc2, hx2⟩
  refine hK _ _ hx2 ?_
  clear hK K
  (try simp only [Act.put, setZa, setZ0, setZ1])
  iterate 5 ((first
   | refine extT_move rfl rfl (by rfl) (by rfl) ?_
   | refine extT_assign rfl rfl (by rfl) (by rfl) ?_
   | refine extT_pick_t rfl rfl (by rfl) (by rfl) (by rfl) ?_
   | refine extT_pick_f rfl rfl (by rfl) (by rfl) (by rfl) ?_
   | (apply extT_take rfl (by rfl)
      · intro w' hS
        have hSc := hS.cells
        (try simp only [World.size_drew, World.cell?_drew] at hSc)
        go_simp
        (try simp (disch := omega) only [i64_id, u64_id, ↓IntWalk.iteOmega, Int.tdiv_eq_ediv_of_nonneg, Int.tmod_eq_emod_of_nonneg])
        try rfl)
   | refine extT_pass rfl (by rfl) ?_); simp only [Act.put, setZa, setZ0, setZ1])
  refine extT_nil ?_
  skip
  rotate_left
  all_goals
    have hx : Ext W1 W2 := (Ext.alloc _ _).trans ((Ext.alloc _ _).trans ((Ext.drew _).trans hx2))
    have HX2 := Lib.hid (HX1.out.trans hx)
    rw [HBT.out] at hc2
    have d0 : W2.cell? ⟨g2, 8, none⟩ = some (.int .u8 2) := hc2 0 (by decide)
    have d1 : W2.cell? ⟨g2, 9, none⟩ = some (.int .u8 0) := hc2 1 (by decide)
    have d2 : W2.cell? ⟨g2, 10, none⟩ = some (.int .u8 0) := hc2 2 (by decide)
    have d3 : W2.cell? ⟨g2, 11, none⟩ = some (.int .u8 0) := hc2 3 (by decide)
    have d4 : W2.cell? ⟨g2, 12, none⟩ = some (.int .u8 0) := hc2 4 (by decide)
    have d5 : W2.cell? ⟨g2, 13, none⟩ = some (.int .u8 0) := hc2 5 (by decide)
    have d6 : W2.cell? ⟨g2, 14, none⟩ = some (.int .u8 0) := hc2 6 (by decide)
    have d7 : W2.cell? ⟨g2, 15, none⟩ = some (.int .u8 0) := hc2 7 (by decide)
    have hEq := eq_two
    clear hx2 hx hc2 h0 h1 h2 HO HX1 HB0
    go_wp2_with first | (go_at_call 51; refine (choose54_any _).mono ?_; rintro e W3 ⟨rv, rfl, hR, hx3⟩; obtain ⟨ra, ro, rc, q, rfl, hrows⟩ := rows54_of hR.rows; have HR := Lib.hid hrows; have HX3 := Lib.hid (HX2.out.trans hx3); have e0 := (Below.cell hx3 (p := ⟨g2, 8, none⟩) lg2).trans d0; have e1 := (Below.cell hx3 (p := ⟨g2, 9, none⟩) lg2).trans d1; have e2 := (Below.cell hx3 (p := ⟨g2, 10, none⟩) lg2).trans d2; have e3 := (Below.cell hx3 (p := ⟨g2, 11, none⟩) lg2).trans d3; have e4 := (Below.cell hx3 (p := ⟨g2, 12, none⟩) lg2).trans d4; have e5 := (Below.cell hx3 (p := ⟨g2, 13, none⟩) lg2).trans d5; have e6 := (Below.cell hx3 (p := ⟨g2, 14, none⟩) lg2).trans d6; have e7 := (Below.cell hx3 (p := ⟨g2, 15, none⟩) lg2).trans d7; have lg3 := Nat.lt_of_lt_of_le lg2 hx3.size; clear hR hx3 hrows d0 d1 d2 d3 d4 d5 d6 d7) | (refine wpList_store_box 117 _ _ rfl (by rfl) rfl rfl (BoxAt.new W3 #[.int .i64 0, .slice none 0 0] 117) rfl (by kernel_rfl) (by simp [Value.oneCell']) ?_; intro W4 hS; have HS := Lib.hid hS; have hx4 : Ext W3 W4 := hS.bel (Ext.alloc _ _) (Nat.le_refl _); have HX4 := Lib.hid hx4; have f0 := (Below.cell hx4 (p := ⟨g2, 8, none⟩) lg3).trans e0; have f1 := (Below.cell hx4 (p := ⟨g2, 9, none⟩) lg3).trans e1; have f2 := (Below.cell hx4 (p := ⟨g2, 10, none⟩) lg3).trans e2; have f3 := (Below.cell hx4 (p := ⟨g2, 11, none⟩) lg3).trans e3; have f4 := (Below.cell hx4 (p := ⟨g2, 12, none⟩) lg3).trans e4; have f5 := (Below.cell hx4 (p := ⟨g2, 13, none⟩) lg3).trans e5; have f6 := (Below.cell hx4 (p := ⟨g2, 14, none⟩) lg3).trans e6; have f7 := (Below.cell hx4 (p := ⟨g2, 15, none⟩) lg3).trans e7; have lg4 := Nat.lt_of_lt_of_le lg3 hx4.size; have b0 := hS.box.cell 0 (v := .int .i64 5) rfl; have b1 := hS.box.cell 1 (v := .slice (some ⟨ra, ro, none⟩) 5 rc) rfl; have lb := hS.box.lt; clear hS hx4 e0 e1 e2 e3 e4 e5 e6 e7) | (go_at_call 52; refine (slots_any ra ro rc q _ (HR.out.ext HX4.out)).mono ?_; rintro e W5 ⟨rfl, hx5⟩)
    go_ret
    exact ⟨rfl, HX3.out.trans (HX4.out.trans hx5)⟩
end Go.Proofs.YtjabgpejmnpamaaGreatDoor

namespace Go.Proofs.YtjabgpejmnpamaaGreatDoor
open Go.RowKit
theorem box_type {w : World} {g : Nat} {cs cs' : Array Value} {t t' : TypeId} (h : BoxAt w g cs t) (h' : BoxAt w g cs' t') : t = t' := by
  have e1 : w.heap[g]? = some (.cells cs t) := h
  have e2 : w.heap[g]? = some (.cells cs' t') := h'
  rw [e1] at e2
  injection e2 with e2
  injection e2
structure Chg (B : Nat) (T : List TypeId) (w w' : World) : Prop where
  bel : Below B w w'
  box : ∀ k cs t, BoxAt w k cs t → t ∉ T → BoxAt w' k cs t
section
variable {B : Nat} {T : List TypeId} {a b c : World}
theorem Chg.refl (B : Nat) (T : List TypeId) (w : World) : Chg B T w w := ⟨Below.refl _ _, fun _ _ _ h _ => h⟩
theorem Chg.trans (h : Chg B T a b) (k : Chg B T b c) : Chg B T a c := ⟨h.bel.trans k.bel, fun g cs t hb ht => k.box g cs t (h.box g cs t hb ht) ht⟩
theorem Chg.size (h : Chg B T a b) : a.heap.size ≤ b.heap.size := h.bel.size
theorem Chg.ext (e : Ext a b) (hB : B ≤ a.heap.size) : Chg B T a b := ⟨Below.mono e hB, fun _ _ _ h _ => h.ext e⟩
theorem Chg.more (h : Chg B T a b) (e : Ext b c) (hB : B ≤ a.heap.size) : Chg B T a c := h.trans (Chg.ext e (Nat.le_trans hB h.size))
theorem Chg.wide {T' : List TypeId} (h : Chg B T a b) (hT : ∀ t, t ∈ T → t ∈ T') : Chg B T' a b := ⟨h.bel, fun k cs t hb ht => h.box k cs t hb (fun hm => ht (hT t hm))⟩
theorem Chg.stored {g : Nat} {cs cells : Array Value} {t : TypeId} (h : Chg B T a b) (hx : BoxAt b g cs t) (hs : Stored b c g cells t) (ht : t ∈ T) (hg : B ≤ g) : Chg B T a c := by
  refine ⟨hs.bel h.bel hg, fun k cs' t' hb ht' => ?_⟩
  have hk := h.box k cs' t' hb ht'
  refine (hs.other k (fun e => ?_)).trans hk
  subst e
  exact ht' (box_type hx hk ▸ ht)
theorem Chg.grown {e : TypeId} {s n b0 : Nat} {v : Value} {xs : List Value} (h : Chg B T a b) (ho : b.ownsRow b0 e s v n xs) (he : e ∈ T) (hb : B ≤ b0) (hB : B ≤ a.heap.size) (hg : b.grownBy c v.ownBlock) : Chg B T a c := by
  refine ⟨Below.grown h.bel hg (Nat.le_trans hB h.size) (fun k hk => ?_), fun k cs t hx ht => ?_⟩
  · rcases ho.2 with ⟨h1, _⟩ | ⟨q, cap, cur, h1, h2, _⟩
    · rw [h1] at hk; simp [Value.ownBlock] at hk
    · rw [h1] at hk; simp [Value.ownBlock] at hk; omega
  · have hk := h.box k cs t hx ht
    refine hk.grown hg (fun hkv => ?_)
    rcases ho.2 with ⟨h1, _⟩ | ⟨q, cap, cur, h1, h2, h3, _⟩
    · rw [h1] at hkv; simp [Value.ownBlock] at hkv
    · rw [h1] at hkv
      simp [Value.ownBlock] at hkv
      subst hkv
      exact ht (box_type (show BoxAt b k cur e from h3) hk ▸ he)
theorem ownsRow_chg {e : TypeId} {s n b0 : Nat} {v : Value} {xs : List Value} (h : Chg B T a b) (ho : a.ownsRow b0 e s v n xs) (he : e ∉ T) : b.ownsRow b0 e s v n xs := by
  refine ⟨ho.1, ho.2.imp id ?_⟩
  rintro ⟨g, cap, cur, hv, hg, hh, r⟩
  exact ⟨g, cap, cur, hv, hg, h.box g cur e hh he, r⟩
theorem BoxAt.chg {g : Nat} {cs : Array Value} {t : TypeId} (hb : BoxAt a g cs t) (h : Chg B T a b) (ht : t ∉ T) : BoxAt b g cs t := h.box g cs t hb ht
theorem box_ne {w : World} {g g' : Nat} {cs cs' : Array Value} {t t' : TypeId} (h : BoxAt w g cs t) (h' : BoxAt w g' cs' t') (ht : t ≠ t') : g ≠ g' := by
  intro e
  subst e
  exact ht (box_type h h')
end
end Go.Proofs.YtjabgpejmnpamaaGreatDoor

namespace Go.Proofs.YtjabgpejmnpamaaGreatDoor
set_option maxRecDepth 100000
open Go.RowKit
attribute [local go_sem ↓] Go.wp_at_zero Go.wp_at_succ
theorem below_cells {W w1 : World} (hb : Below W.heap.size W w1) : (∀ b o, b < W.heap.size → w1.cell? ⟨b, o, none⟩ = W.cell? ⟨b, o, none⟩) ∧ (∀ b o, b < W.heap.size → w1.frozen? ⟨b, o, none⟩ = W.frozen? ⟨b, o, none⟩) :=
  ⟨fun b o h => hb.cell (p := ⟨b, o, none⟩) h, fun b o h => hb.frozen (p := ⟨b, o, none⟩) h⟩
abbrev dggeoV (r b t s o : Int) : Value := .agg #[.int .i64 r, .int .i64 b, .int .i64 t, .int .i64 s, .int .i64 o]
def dgvalidB (r b t s o : Int) : Bool := decide (0 ≤ r ∧ r ≤ 16384 ∧ 1 ≤ b ∧ b ≤ 64 ∧ 1 ≤ t ∧ t ≤ 16 ∧ 1 ≤ s ∧ s ≤ 64 ∧ 0 ≤ o ∧ o ≤ 3)
def dgwithinB (n lo hi : Int) : Bool := decide (lo ≤ n ∧ n ≤ hi)
theorem dgwithin_any (n lo hi : Int) (w : World) :
    Calls Tryz.prog 158 #[.int .i64 n, .int .i64 lo, .int .i64 hi] w fun e w' => e = .returned (.bool (dgwithinB n lo hi)) ∧ w = w' := by
  go_enter Tryz.func158, Tryz.ntmps158
  go_wp2
  all_goals go_ret
  all_goals exact ⟨ret_iff (by simp only [dgwithinB, decide_eq_true_eq, Bool.false_eq_true]; constructor <;> intro h <;> first | exact False.elim h | omega), rfl⟩
set_option maxHeartbeats 400000 in
theorem dgvalid_any (r b t s o : Int) (w : World) :
    Calls Tryz.prog 105 #[dggeoV r b t s o] w fun e w' => e = .returned (.bool (dgvalidB r b t s o)) ∧ Below w.heap.size w w' := by
  go_enter Tryz.func105, Tryz.ntmps105
  go_wp2_with (go_at_call 158; refine (dgwithin_any _ _ _ _).mono ?_; rintro e w' ⟨rfl, rfl⟩)
  all_goals go_ret
  all_goals exact ⟨ret_iff (by simp only [dgwithinB, dgvalidB, decide_eq_true_eq, Bool.false_eq_true] at *; constructor <;> intro h <;> first | exact False.elim h | omega), (Below.refl _ _).alloc (Nat.le_refl _) _⟩
def bsz (r b t s o : Int) : Int := if dgvalidB r b t s o then t * s else 0
theorem bounds {r b t s o : Int} (h : dgvalidB r b t s o = true) : 0 ≤ r ∧ r ≤ 16384 ∧ 1 ≤ b ∧ b ≤ 64 ∧ 1 ≤ t ∧ t ≤ 16 ∧ 1 ≤ s ∧ s ≤ 64 ∧ 0 ≤ o ∧ o ≤ 3 := by
  simpa only [dgvalidB, decide_eq_true_eq] using h
theorem prod_bounds {r b t s o : Int} (h : dgvalidB r b t s o = true) : 1 ≤ t * s ∧ t * s ≤ 1024 ∧ 1 ≤ b * (t * s) ∧ b * (t * s) ≤ 65536 := by
  obtain ⟨_, _, hb1, hb2, ht1, ht2, hs1, hs2, _, _⟩ := bounds h
  have h1 : 1 * 1 ≤ t * s := Int.mul_le_mul ht1 hs1 (by omega) (by omega)
  have h2 : t * s ≤ 16 * 64 := Int.mul_le_mul ht2 hs2 (by omega) (by omega)
  have h3 : 1 * 1 ≤ b * (t * s) := Int.mul_le_mul hb1 (by omega) (by omega) (by omega)
  have h4 : b * (t * s) ≤ 64 * 1024 := Int.mul_le_mul hb2 (by omega) (by omega) (by omega)
  omega
set_option maxHeartbeats 400000 in
theorem bsz_any (r b t s o : Int) (w : World) :
    Calls Tryz.prog 110 #[dggeoV r b t s o] w fun e w' => e = .returned (.int .i64 (bsz r b t s o)) ∧ Below w.heap.size w w' := by
  by_cases hv : dgvalidB r b t s o = true
  all_goals
    have HV := Lib.hid hv
    first | (have hp := prod_bounds hv; have hb := bounds hv) | skip
    go_enter Tryz.func110, Tryz.ntmps110
    go_wp2_with (go_at_call 105; refine (dgvalid_any _ _ _ _ _ _).mono ?_; rintro e w1 ⟨rfl, hb1⟩; have hc1 := below_cells hb1)
    go_ret
    exact ⟨ret_int (by unfold bsz; simp [HV.out]), ((((Below.refl _ _).alloc (Nat.le_refl _) _).trans (hb1.mono (by simp))))⟩
theorem bsz_any_yes (r b t s o : Int) (hv : dgvalidB r b t s o = true) (w : World) :
    Calls Tryz.prog 110 #[dggeoV r b t s o] w fun e w' => e = .returned (.int .i64 (t * s)) ∧ Below w.heap.size w w' := by
  have := bsz_any r b t s o w
  rwa [show bsz r b t s o = t * s by simp [bsz, hv]] at this
def szz (r b t s o : Int) : Int := if dgvalidB r b t s o then r + b * (t * s) else 0
set_option maxHeartbeats 400000 in
theorem size_any (r b t s o : Int) (w : World) :
    Calls Tryz.prog 106 #[dggeoV r b t s o] w fun e w' => e = .returned (.int .i64 (szz r b t s o)) ∧ Below w.heap.size w w' := by
  by_cases hv : dgvalidB r b t s o = true
  · have HV := Lib.hid hv
    have hp := prod_bounds hv; have hb := bounds hv
    go_enter Tryz.func106, Tryz.ntmps106
    go_wp2_with (go_at_call 105; refine (dgvalid_any _ _ _ _ _ _).mono ?_; rintro e w1 ⟨rfl, hb1⟩; have hc1 := below_cells hb1)
    have hz : w.heap.size < w1.heap.size := by have := hb1.size; simp at this; omega
    refine wp_region_ext [(0, true), (1, true), (2, true), (3, true), (4, true), (5, false), (6, true), (7, true), (8, true)] (by kernel_rfl) (by kernel_rfl) ?_
    iterate 5 ((first
     | refine ext_move rfl rfl (by rfl) (by rfl) ?_
     | refine ext_assign rfl rfl (by rfl) (by rfl) ?_
     | refine ext_pick_t rfl rfl (by rfl) (by rfl) (by rfl) ?_
     | refine ext_pick_f rfl rfl (by rfl) (by rfl) (by rfl) ?_
     | (apply ext_take rfl (by rfl)
        · intro w' hS
          have hSc := hS.cells
          (try simp only [World.size_drew, World.cell?_drew] at hSc)
          go_simp
          (try simp (disch := omega) only [i64_id, u64_id, ↓IntWalk.iteOmega, Int.tdiv_eq_ediv_of_nonneg, Int.tmod_eq_emod_of_nonneg])
          try rfl)
     | refine ext_pass rfl (by rfl) ?_); simp only [Act.put, setZa, setZ0, setZ1])
    (refine ext_do rfl (by rfl) (fun K hK => ?_)
     go_simp
     go_at_call 110
     refine (bsz_any_yes _ _ _ _ _ HV.out _).mono ?_
     rintro e w2 ⟨rfl, hb2⟩
     refine hK _ _ ((Ext.drew _).trans hb2) ?_
     clear hK K
     (try simp only [Act.put, setZa, setZ0, setZ1]))
    iterate 3 ((first
     | refine ext_move rfl rfl (by rfl) (by rfl) ?_
     | refine ext_assign rfl rfl (by rfl) (by rfl) ?_
     | refine ext_pick_t rfl rfl (by rfl) (by rfl) (by rfl) ?_
     | refine ext_pick_f rfl rfl (by rfl) (by rfl) (by rfl) ?_
     | (apply ext_take rfl (by rfl)
        · intro w' hS
          have hSc := hS.cells
          (try simp only [World.size_drew, World.cell?_drew] at hSc)
          go_simp
          (try simp (disch := omega) only [i64_id])
          try rfl)
     | refine ext_pass rfl (by rfl) ?_); simp only [Act.put, setZa, setZ0, setZ1])
    refine ext_nil ?_
    go_wp2
    go_ret
    exact ⟨ret_int (by unfold szz; simp [HV.out]), (((Ext.alloc _ _).trans hb1).trans (Ext.drew _)).trans hb2⟩
  · have HV := Lib.hid hv
    go_enter Tryz.func106, Tryz.ntmps106
    go_wp2_with (go_at_call 105; refine (dgvalid_any _ _ _ _ _ _).mono ?_; rintro e w1 ⟨rfl, hb1⟩; have hc1 := below_cells hb1)
    go_ret
    exact ⟨ret_int (by unfold szz; simp [HV.out]), (Ext.alloc _ _).trans hb1⟩
theorem size_any_yes (r b t s o : Int) (hv : dgvalidB r b t s o = true) (w : World) :
    Calls Tryz.prog 106 #[dggeoV r b t s o] w fun e w' => e = .returned (.int .i64 (r + b * (t * s))) ∧ Below w.heap.size w w' := by
  have := size_any r b t s o w
  rwa [show szz r b t s o = r + b * (t * s) by simp [szz, hv]] at this
open Go.RowKit
attribute [local go_sem ↓] Go.wp_at_zero Go.wp_at_succ
theorem within_yes (n lo hi : Int) (w : World) (h : lo ≤ n ∧ n ≤ hi) :
    Calls Tryz.prog 158 #[.int .i64 n, .int .i64 lo, .int .i64 hi] w fun e w' => e = .returned (.bool true) ∧ w = w' := by
  have := dgwithin_any n lo hi w
  rwa [show dgwithinB n lo hi = true by simpa [dgwithinB] using h] at this
theorem within_no (n lo hi : Int) (w : World) (h : ¬ (lo ≤ n ∧ n ≤ hi)) :
    Calls Tryz.prog 158 #[.int .i64 n, .int .i64 lo, .int .i64 hi] w fun e w' => e = .returned (.bool false) ∧ w = w' := by
  have := dgwithin_any n lo hi w
  rwa [show dgwithinB n lo hi = false by simpa [dgwithinB] using h] at this
theorem valid_yes (r b t s o : Int) (hv : dgvalidB r b t s o = true) (w : World) :
    Calls Tryz.prog 105 #[dggeoV r b t s o] w fun e w' => e = .returned (.bool true) ∧ Below w.heap.size w w' := hv ▸ dgvalid_any r b t s o w
theorem valid_no (r b t s o : Int) (hv : dgvalidB r b t s o = false) (w : World) :
    Calls Tryz.prog 105 #[dggeoV r b t s o] w fun e w' => e = .returned (.bool false) ∧ Below w.heap.size w w' := hv ▸ dgvalid_any r b t s o w
structure Loc where
  band : Int
  track : Int
  pos : Int
  err : Int
abbrev Loc.val (l : Loc) : Value := .tuple #[.int .i64 l.band, .int .i64 l.track, .int .i64 l.pos, .int .i64 l.err]
def inB (r b t s o a : Int) : Bool := decide (r ≤ a ∧ a < r + b * (t * s))
def loc (r b t s o a : Int) : Loc :=
  if dgvalidB r b t s o = true then (if inB r b t s o a = true then ⟨(a - r) / s / t, (a - r) / s % t, (a - r) % s, 0⟩ else ⟨0, 0, 0, 2⟩) else ⟨0, 0, 0, 1⟩
theorem loc_no {r b t s o a : Int} (h : dgvalidB r b t s o = false) : loc r b t s o a = ⟨0, 0, 0, 1⟩ := by simp [loc, h]
theorem loc_out {r b t s o a : Int} (h : dgvalidB r b t s o = true) (h2 : inB r b t s o a = false) : loc r b t s o a = ⟨0, 0, 0, 2⟩ := by simp [loc, h, h2]
theorem loc_in {r b t s o a : Int} (h : dgvalidB r b t s o = true) (h2 : inB r b t s o a = true) : loc r b t s o a = ⟨(a - r) / s / t, (a - r) / s % t, (a - r) % s, 0⟩ := by simp [loc, h, h2]
theorem div_bounds {n s : Int} (h0 : 0 ≤ n) (hs : 1 ≤ s) : 0 ≤ n / s ∧ n / s ≤ n ∧ 0 ≤ n % s ∧ n % s < s := by
  refine ⟨Int.ediv_nonneg h0 (by omega), Int.ediv_le_self _ h0, Int.emod_nonneg _ (by omega), Int.emod_lt_of_pos _ (by omega)⟩
set_option maxHeartbeats 800000 in
theorem locate_any (r b t s o a : Int) (w : World) :
    Calls Tryz.prog 266 #[dggeoV r b t s o, .int .i64 a] w fun e w' => e = .returned (loc r b t s o a).val ∧ Below w.heap.size w w' := by
  rcases hv : dgvalidB r b t s o with _ | _
  · have HV := Lib.hid hv; clear hv
    go_enter Tryz.func266, Tryz.ntmps266
    go_wp2_with (go_at_call 105; refine (valid_no _ _ _ _ _ HV.out _).mono ?_; rintro e w1 ⟨rfl, hb1⟩; have hc1 := below_cells hb1)
    ((try simp only [Exit.inBlock, Exit.then]); refine bodyPost_ret (results_tmp4 rfl _ _ _) rfl ?_)
    rw [loc_no HV.out]
    exact ⟨rfl, (Ext.alloc _ _).trans hb1⟩
  · have HV := Lib.hid hv
    have hp := prod_bounds hv; have hb := bounds hv; clear hv
    rcases hi : inB r b t s o a with _ | _
    · have HI := Lib.hid hi
      have hj : ¬ (r ≤ a ∧ a < r + b * (t * s)) := by simpa only [inB, decide_eq_false_iff_not] using hi
      have HJ := Lib.hid hj
      clear hi hj
      go_enter Tryz.func266, Tryz.ntmps266
      go_wp2_with (go_at_call 105; refine (valid_yes _ _ _ _ _ HV.out _).mono ?_; rintro e w1 ⟨rfl, hb1⟩; have hc1 := below_cells hb1)
      have hz : w.heap.size < w1.heap.size := by have := hb1.size; simp at this; omega
      refine wp_region_ext [(0, true), (1, true), (2, true), (3, true), (4, false), (5, true), (6, false), (7, true), (8, true)] (by kernel_rfl) (by kernel_rfl) ?_
      iterate 4 ((first
       | refine ext_move rfl rfl (by rfl) (by rfl) ?_
       | refine ext_assign rfl rfl (by rfl) (by rfl) ?_
       | refine ext_pick_t rfl rfl (by rfl) (by rfl) (by rfl) ?_
       | refine ext_pick_f rfl rfl (by rfl) (by rfl) (by rfl) ?_
       | (apply ext_take rfl (by rfl)
          · intro w' hS
            have hSc := hS.cells
            (try simp only [World.size_drew, World.cell?_drew] at hSc)
            go_simp
            (try simp (disch := omega) only [i64_id, u64_id, ↓IntWalk.iteOmega, Int.tdiv_eq_ediv_of_nonneg, Int.tmod_eq_emod_of_nonneg])
            try rfl)
       | refine ext_pass rfl (by rfl) ?_); simp only [Act.put, setZa, setZ0, setZ1])
      (refine ext_do rfl (by rfl) (fun K hK => ?_)
       go_simp
       go_at_call 106
       refine (size_any_yes _ _ _ _ _ HV.out _).mono ?_
       rintro e w2 ⟨rfl, hb2⟩
       refine hK _ _ ((Ext.drew _).trans hb2) ?_
       clear hK K
       (try simp only [Act.put, setZa, setZ0, setZ1]))
      iterate 1 ((first
       | refine ext_move rfl rfl (by rfl) (by rfl) ?_
       | refine ext_assign rfl rfl (by rfl) (by rfl) ?_
       | refine ext_pick_t rfl rfl (by rfl) (by rfl) (by rfl) ?_
       | refine ext_pick_f rfl rfl (by rfl) (by rfl) (by rfl) ?_
       | (apply ext_take rfl (by rfl)
          · intro w' hS
            have hSc := hS.cells
            (try simp only [World.size_drew, World.cell?_drew] at hSc)
            go_simp
            (try simp (disch := omega) only [i64_id])
            try rfl)
       | refine ext_pass rfl (by rfl) ?_); simp only [Act.put, setZa, setZ0, setZ1])
      (refine ext_do rfl (by rfl) (fun K hK => ?_)
       go_simp
       go_at_call 158
       refine (within_no _ _ _ _ (by have := HJ.out; omega)).mono ?_
       rintro e w3 ⟨rfl, rfl⟩
       refine hK _ _ (Ext.refl _) ?_
       clear hK K
       (try simp only [Act.put, setZa, setZ0, setZ1]))
      iterate 2 ((first
       | refine ext_move rfl rfl (by rfl) (by rfl) ?_
       | refine ext_assign rfl rfl (by rfl) (by rfl) ?_
       | refine ext_pick_t rfl rfl (by rfl) (by rfl) (by rfl) ?_
       | refine ext_pick_f rfl rfl (by rfl) (by rfl) (by rfl) ?_
       | (apply ext_take rfl (by rfl)
          · intro w' hS
            have hSc := hS.cells
            (try simp only [World.size_drew, World.cell?_drew] at hSc)
            go_simp
            (try simp (disch := omega) only [i64_id, u64_id, ↓IntWalk.iteOmega, Int.tdiv_eq_ediv_of_nonneg, Int.tmod_eq_emod_of_nonneg])
            try rfl)
       | refine ext_pass rfl (by rfl) ?_); simp only [Act.put, setZa, setZ0, setZ1])
      refine ext_nil ?_
      go_wp2
      ((try simp only [Exit.inBlock, Exit.then]); refine bodyPost_ret (results_tmp4 rfl _ _ _) rfl ?_)
      rw [loc_out HV.out HI.out]
      exact ⟨rfl, (((Ext.alloc _ _).trans hb1).trans (Ext.drew _)).trans hb2⟩
    · have HI := Lib.hid hi
      have hj : r ≤ a ∧ a < r + b * (t * s) := by simpa only [inB, decide_eq_true_eq] using hi
      have hn : 0 ≤ a - r := by omega
      have hd := div_bounds hn (show 1 ≤ s by omega)
      have hd2 := div_bounds hd.1 (show 1 ≤ t by omega)
      clear hi
      go_enter Tryz.func266, Tryz.ntmps266
      go_wp2_with (go_at_call 105; refine (valid_yes _ _ _ _ _ HV.out _).mono ?_; rintro e w1 ⟨rfl, hb1⟩; have hc1 := below_cells hb1)
      have hz : w.heap.size < w1.heap.size := by have := hb1.size; simp at this; omega
      refine wp_region_ext [(0, true), (1, true), (2, true), (3, true), (4, false), (5, true), (6, false), (7, true), (8, true)] (by kernel_rfl) (by kernel_rfl) ?_
      iterate 4 ((first
       | refine ext_move rfl rfl (by rfl) (by rfl) ?_
       | refine ext_assign rfl rfl (by rfl) (by rfl) ?_
       | refine ext_pick_t rfl rfl (by rfl) (by rfl) (by rfl) ?_
       | refine ext_pick_f rfl rfl (by rfl) (by rfl) (by rfl) ?_
       | (apply ext_take rfl (by rfl)
          · intro w' hS
            have hSc := hS.cells
            (try simp only [World.size_drew, World.cell?_drew] at hSc)
            go_simp
            (try simp (disch := omega) only [i64_id, u64_id, ↓IntWalk.iteOmega, Int.tdiv_eq_ediv_of_nonneg, Int.tmod_eq_emod_of_nonneg])
            try rfl)
       | refine ext_pass rfl (by rfl) ?_); simp only [Act.put, setZa, setZ0, setZ1])
      (refine ext_do rfl (by rfl) (fun K hK => ?_)
       go_simp
       go_at_call 106
       refine (size_any_yes _ _ _ _ _ HV.out _).mono ?_
       rintro e w2 ⟨rfl, hb2⟩
       refine hK _ _ ((Ext.drew _).trans hb2) ?_
       clear hK K
       (try simp only [Act.put, setZa, setZ0, setZ1]))
      iterate 1 ((first
       | refine ext_move rfl rfl (by rfl) (by rfl) ?_
       | refine ext_assign rfl rfl (by rfl) (by rfl) ?_
       | refine ext_pick_t rfl rfl (by rfl) (by rfl) (by rfl) ?_
       | refine ext_pick_f rfl rfl (by rfl) (by rfl) (by rfl) ?_
       | (apply ext_take rfl (by rfl)
          · intro w' hS
            have hSc := hS.cells
            (try simp only [World.size_drew, World.cell?_drew] at hSc)
            go_simp
            (try simp (disch := omega) only [i64_id])
            try rfl)
       | refine ext_pass rfl (by rfl) ?_); simp only [Act.put, setZa, setZ0, setZ1])
      (refine ext_do rfl (by rfl) (fun K hK => ?_)
       go_simp
       go_at_call 158
       refine (within_yes _ _ _ _ (by omega)).mono ?_
       rintro e w3 ⟨rfl, rfl⟩
       refine hK _ _ (Ext.refl _) ?_
       clear hK K
       (try simp only [Act.put, setZa, setZ0, setZ1]))
      iterate 2 ((first
       | refine ext_move rfl rfl (by rfl) (by rfl) ?_
       | refine ext_assign rfl rfl (by rfl) (by rfl) ?_
       | refine ext_pick_t rfl rfl (by rfl) (by rfl) (by rfl) ?_
       | refine ext_pick_f rfl rfl (by rfl) (by rfl) (by rfl) ?_
       | (apply ext_take rfl (by rfl)
          · intro w' hS
            have hSc := hS.cells
            (try simp only [World.size_drew, World.cell?_drew] at hSc)
            go_simp
            (try simp (disch := omega) only [i64_id, u64_id, ↓IntWalk.iteOmega, Int.tdiv_eq_ediv_of_nonneg, Int.tmod_eq_emod_of_nonneg])
            try rfl)
       | refine ext_pass rfl (by rfl) ?_); simp only [Act.put, setZa, setZ0, setZ1])
      refine ext_nil ?_
      have hz2 : w.heap.size < w2.heap.size := by have := hb2.size; simp at this; omega
      have hc2 := ((Ext.drew w1).trans hb2).cells
      go_wp2
      refine wp_region_ext [(0, true), (1, true), (2, true), (3, true), (4, true), (5, true), (6, true), (7, true), (8, true), (9, true)] (by kernel_rfl) (by kernel_rfl) ?_
      iterate 10 ((first
       | refine ext_move rfl rfl (by rfl) (by rfl) ?_
       | refine ext_assign rfl rfl (by rfl) (by rfl) ?_
       | refine ext_pick_t rfl rfl (by rfl) (by rfl) (by rfl) ?_
       | refine ext_pick_f rfl rfl (by rfl) (by rfl) (by rfl) ?_
       | (apply ext_take rfl (by rfl)
          · intro w' hS
            have hSc := hS.cells
            (try simp only [World.size_drew, World.cell?_drew] at hSc)
            go_simp
            (try simp (disch := omega) only [i64_id, ↓IntWalk.iteOmega, Int.tdiv_eq_ediv_of_nonneg, Int.tmod_eq_emod_of_nonneg])
            try rfl)
       | refine ext_pass rfl (by rfl) ?_); simp only [Act.put, setZa, setZ0, setZ1])
      refine ext_nil ?_
      go_wp2
      refine wp_region_ext [(0, true), (1, true), (2, true), (3, true), (4, true), (5, true), (6, true), (7, true), (8, true), (9, true), (10, true), (11, true), (12, true)] (by kernel_rfl) (by kernel_rfl) ?_
      iterate 13 ((first
       | refine ext_move rfl rfl (by rfl) (by rfl) ?_
       | refine ext_assign rfl rfl (by rfl) (by rfl) ?_
       | refine ext_pick_t rfl rfl (by rfl) (by rfl) (by rfl) ?_
       | refine ext_pick_f rfl rfl (by rfl) (by rfl) (by rfl) ?_
       | (apply ext_take rfl (by rfl)
          · intro w' hS
            have hSc := hS.cells
            (try simp only [World.size_drew, World.cell?_drew] at hSc)
            go_simp
            (try simp (disch := omega) only [i64_id, ↓IntWalk.iteOmega, Int.tdiv_eq_ediv_of_nonneg, Int.tmod_eq_emod_of_nonneg])
            try rfl)
       | refine ext_pass rfl (by rfl) ?_); simp only [Act.put, setZa, setZ0, setZ1])
      refine ext_nil ?_
      go_wp2
      ((try simp only [Exit.inBlock, Exit.then]); refine bodyPost_ret (results_tmp4 rfl _ _ _) rfl ?_)
      rw [loc_in HV.out HI.out]
      exact ⟨rfl, (((((Ext.alloc _ _).trans hb1).trans (Ext.drew _)).trans hb2).trans (Ext.drew _)).trans (Ext.drew _)⟩
open Go.RowKit
attribute [local go_sem ↓] Go.wp_at_zero Go.wp_at_succ
structure Adr where
  at_ : Int
  err : Int
abbrev Adr.val (l : Adr) : Value := .tuple #[.int .i64 l.at_, .int .i64 l.err]
def inS (b t s x y z : Int) : Bool := decide (0 ≤ x ∧ x < b ∧ 0 ≤ y ∧ y < t ∧ 0 ≤ z ∧ z < s)
def adr (r b t s o x y z : Int) : Adr :=
  if dgvalidB r b t s o = true then (if inS b t s x y z = true then ⟨r + (x * t + y) * s + z, 0⟩ else ⟨0, 2⟩) else ⟨0, 1⟩
theorem adr_no {r b t s o x y z : Int} (h : dgvalidB r b t s o = false) : adr r b t s o x y z = ⟨0, 1⟩ := by simp [adr, h]
theorem adr_out {r b t s o x y z : Int} (h : dgvalidB r b t s o = true) (h2 : inS b t s x y z = false) : adr r b t s o x y z = ⟨0, 2⟩ := by simp [adr, h, h2]
theorem adr_in {r b t s o x y z : Int} (h : dgvalidB r b t s o = true) (h2 : inS b t s x y z = true) : adr r b t s o x y z = ⟨r + (x * t + y) * s + z, 0⟩ := by simp [adr, h, h2]
theorem adr_bounds {r b t s o x y z : Int} (h : dgvalidB r b t s o = true) (h2 : inS b t s x y z = true) :
    0 ≤ x * t ∧ x * t ≤ 1024 ∧ 0 ≤ (x * t + y) * s ∧ (x * t + y) * s ≤ 131072 := by
  obtain ⟨_, _, hb1, hb2, ht1, ht2, hs1, hs2, _, _⟩ := bounds h
  have h3 : 0 ≤ x ∧ x < b ∧ 0 ≤ y ∧ y < t ∧ 0 ≤ z ∧ z < s := by simpa only [inS, decide_eq_true_eq] using h2
  have h1 : 0 ≤ x * t := Int.mul_nonneg (by omega) (by omega)
  have h2 : x * t ≤ 64 * 16 := Int.mul_le_mul (by omega) ht2 (by omega) (by omega)
  have h4 : 0 ≤ (x * t + y) * s := Int.mul_nonneg (by omega) (by omega)
  have h5 : (x * t + y) * s ≤ 2048 * 64 := Int.mul_le_mul (by omega) hs2 (by omega) (by omega)
  omega
set_option maxHeartbeats 800000 in
theorem address_any (r b t s o x y z : Int) (w : World) :
    Calls Tryz.prog 209 #[dggeoV r b t s o, .int .i64 x, .int .i64 y, .int .i64 z] w fun e w' => e = .returned (adr r b t s o x y z).val ∧ Below w.heap.size w w' := by
  rcases hv : dgvalidB r b t s o with _ | _
  · have HV := Lib.hid hv; clear hv
    go_enter Tryz.func209, Tryz.ntmps209
    go_wp2_with (go_at_call 105; refine (valid_no _ _ _ _ _ HV.out _).mono ?_; rintro e w1 ⟨rfl, hb1⟩; have hc1 := below_cells hb1)
    go_ret2
    rw [adr_no HV.out]
    exact ⟨rfl, (Ext.alloc _ _).trans hb1⟩
  · have HV := Lib.hid hv
    rcases hi : inS b t s x y z with _ | _
    · have HI := Lib.hid hi
      have hb := bounds hv; clear hv hi
      go_enter Tryz.func209, Tryz.ntmps209
      go_wp2_with (first
        | (go_at_call 105; refine (valid_yes _ _ _ _ _ HV.out _).mono ?_; rintro e w1 ⟨rfl, hb1⟩; have hc1 := below_cells hb1)
        | (go_at_call 158; refine (dgwithin_any _ _ _ _).mono ?_; rintro e w2 ⟨rfl, rfl⟩))
      all_goals first
        | (go_ret2; rw [adr_out HV.out HI.out]; exact ⟨rfl, (Ext.alloc _ _).trans hb1⟩)
        | (exfalso; have hI := HI.out; simp only [inS, dgwithinB, decide_eq_false_iff_not, decide_eq_true_eq, Bool.not_eq_false'] at *; omega)
    · have HI := Lib.hid hi
      have hb := bounds hv
      have hq := adr_bounds hv hi
      have h3 : 0 ≤ x ∧ x < b ∧ 0 ≤ y ∧ y < t ∧ 0 ≤ z ∧ z < s := by simpa only [inS, decide_eq_true_eq] using hi
      clear hv hi
      go_enter Tryz.func209, Tryz.ntmps209
      go_wp2_with (first
        | (go_at_call 105; refine (valid_yes _ _ _ _ _ HV.out _).mono ?_; rintro e w1 ⟨rfl, hb1⟩; have hc1 := below_cells hb1)
        | (go_at_call 158; refine (within_yes _ _ _ _ (by omega)).mono ?_; rintro e w2 ⟨rfl, rfl⟩))
      go_ret2
      rw [adr_in HV.out HI.out]
      exact ⟨rfl, (Ext.alloc _ _).trans hb1⟩
open Go.RowKit
open Go.RowKit
theorem dginfoI : (Tryz.prog.info? 3).map (fun i => (i.zero, i.size, i.bytes)) = some (some (.int .i64 0), 1, 8) := by kernel_rfl
def shwN (s a : Int) (n : Nat) : List Int := (List.range n).map (fun j : Nat => a + ((j : Int) + 1) * s)
theorem shwN_succ (s a : Int) (n : Nat) : shwN s a (n + 1) = shwN s a n ++ [a + ((n : Int) + 1) * s] := by
  simp [shwN, List.range_succ]
def shwC (r b t s o a : Int) : Nat := if (loc r b t s o a).err = 0 then min o.toNat (t - 1 - (loc r b t s o a).track).toNat else 0
def shw (r b t s o a : Int) : List Int := shwN s a (shwC r b t s o a)
theorem shw_bound {k s : Int} (hk : 0 ≤ k) (hk2 : k ≤ 4) (hs : 1 ≤ s) (hs2 : s ≤ 64) : 0 ≤ k * s ∧ k * s ≤ 256 := by
  have h1 := Int.mul_nonneg hk (show 0 ≤ s by omega)
  have h2 : k * s ≤ 4 * 64 := Int.mul_le_mul hk2 hs2 (by omega) (by omega)
  omega
set_option maxHeartbeats 1000000 in
theorem shadow_any (r b t s o a : Int) (w : World) :
    Calls Tryz.prog 263 #[dggeoV r b t s o, .int .i64 a] w fun e w' => ∃ v, e = .returned v ∧ SliceAt encI w' v (shw r b t s o a) ∧ Below w.heap.size w w' := by
  obtain ⟨i0, hi, hz0, hz1, hz2⟩ := info_parts dginfoI
  by_cases he : (loc r b t s o a).err = 0
  · have HE := Lib.hid he
    have hv : dgvalidB r b t s o = true := by
      rcases h : dgvalidB r b t s o with _ | _
      · rw [loc_no h] at he; exact absurd he (by decide)
      · rfl
    have hin : inB r b t s o a = true := by
      rcases h : inB r b t s o a with _ | _
      · rw [loc_out hv h] at he; exact absurd he (by decide)
      · rfl
    have hb := bounds hv
    have hp := prod_bounds hv
    have hj : r ≤ a ∧ a < r + b * (t * s) := by simpa only [inB, decide_eq_true_eq] using hin
    have hab : 0 ≤ a ∧ a ≤ 100000 := by omega
    have HL := Lib.hid (loc_in hv hin)
    have htr : 0 ≤ (loc r b t s o a).track ∧ (loc r b t s o a).track < t := by
      rw [HL.out]; have hn : 0 ≤ a - r := by omega
      have hd := div_bounds hn (show 1 ≤ s by omega)
      have hd2 := div_bounds hd.1 (show 1 ≤ t by omega)
      exact ⟨hd2.2.2.1, hd2.2.2.2⟩
    have hef : ((loc r b t s o a).err != 0) = false := by rw [HE.out]; rfl
    have HS : Hid (shw r b t s o a = shwN s a (min o.toNat (t - 1 - (loc r b t s o a).track).toNat)) := by
      show _ = _; unfold shw shwC; rw [if_pos HE.out]
    generalize hlo : loc r b t s o a = L at *
    have HLO := Lib.hid hlo
    clear hlo he hv hin hj HL
    go_enter Tryz.func263, Tryz.ntmps263
    go_wp2_with (go_at_call 266; refine (locate_any _ _ _ _ _ _ _).mono ?_; rintro e w1 ⟨rfl, hb1⟩; rw [HLO.out]; have hc1 := below_cells hb1)
    have hz : w.heap.size < w1.heap.size := by have := hb1.size; simp at this; omega
    go_loopw [9, 10] (fun v i wr => ∃ n : Nat, i = .int .i64 ((n : Int) + 1) ∧ (n : Int) ≤ o ∧ L.track + n < t ∧ wr.ownsRow w1.heap.size 3 1 v n ((shwN s a n).map encI) ∧ Below w1.heap.size w1 wr) (fun _ i _ => (t - intOf i).toNat)
    case atStart => exact ⟨0, rfl, by omega, by omega, World.ownsRow_nil _ _ _ _, Below.refl _ _⟩
    case round =>
      obtain ⟨n, rfl, hno, hnt, hown, hx⟩ := hrel
      have hxc := below_cells hx
      have hwb := shw_bound (k := (n : Int) + 1) (s := s) (by omega) (by omega) (by omega) (by omega)
      by_cases hc : (n : Int) + 1 ≤ o ∧ L.track + ((n : Int) + 1) < t
      · obtain ⟨hc1', hc2'⟩ := hc
        go_wp2_with (at_builtin; refine wpList_append_own _ rfl _ _ 40 rfl w1.heap.size 3 i0 (.int .i64 0) 1 8 Tryz.underlying40 hi hz0 hz1 hz2 rfl (by decide) _ _ _ rfl (hown.alloc _) ⟨wr.heap.size, 0, none⟩ 1 1 [.int .i64 (a + ((n : Int) + 1) * s)] rfl rfl ?c1 ?c2 ?c3 ?c4 ?c5 ?_)
        case c1 =>
          intro j u hj
          match j, hj with
          | 0, hj => simp at hj; subst hj; simp [Addr.add]
        case c2 => intro u hu; simp at hu; subst hu; rfl
        case c3 => unfold maxLen; omega
        case c4 => omega
        case c5 => have := hx.size; simp; omega
        intro v' w2 hown' hgrow _
        have hx2 : Below w1.heap.size w1 w2 := (hx.alloc hx.size _).grown hgrow (by have := hx.size; simp; omega) (fun k hk => (hown.lt k hk).1)
        have hown2 : w2.ownsRow w1.heap.size 3 1 v' (n + 1) ((shwN s a (n + 1)).map encI) := by rw [shwN_succ, List.map_append]; exact hown'
        clear hown' hgrow hown hx hxc
        go_wp2
        go_roundw
        case rel => exact ⟨n + 1, by go_num, by omega, by omega, hown2, hx2⟩
        case measure => simp [intOf]; omega
      · have hst : n = min o.toNat (t - 1 - L.track).toNat := by omega
        have HST := Lib.hid hst
        clear hst
        go_wp2
        all_goals go_ret
        all_goals exact ⟨_, rfl, by rw [HS.out, ← HST.out]; exact SliceAt.of_owns hown, ((Ext.alloc _ _).trans hb1).trans hx⟩
  · have hef : ((loc r b t s o a).err != 0) = true := by rw [bne_iff_ne]; exact he
    have HS : Hid (shw r b t s o a = []) := by
      show _ = _; unfold shw shwC; rw [if_neg he]; rfl
    clear he
    generalize hlo : loc r b t s o a = L at *
    have HLO := Lib.hid hlo
    clear hlo
    go_enter Tryz.func263, Tryz.ntmps263
    go_wp2_with (go_at_call 266; refine (locate_any _ _ _ _ _ _ _).mono ?_; rintro e w1 ⟨rfl, hb1⟩; rw [HLO.out]; have hc1 := below_cells hb1)
    go_ret
    exact ⟨_, rfl, HS.out ▸ SliceAt.nil, (Ext.alloc _ _).trans hb1⟩
end Go.Proofs.YtjabgpejmnpamaaGreatDoor
