/-
  Part 23 of the proof.
-/
import Derived.Test.YtjabgpejmnpamaaGreatDoorY21
set_option linter.unusedVariables false
namespace Go.Proofs.YtjabgpejmnpamaaGreatDoor
open Go.RowKit Go.Shelf
set_option maxRecDepth 100000
attribute [local go_sem] Oper.semAt_some
set_option maxHeartbeats 8000000 in
theorem node_0_1 {g6 : Nat} {p : List Int} (hp : p.length = 0) {ls0 : List (List Int)} (hc0 : Node g6 (p ++ [0]) ls0) {ls1 : List (List Int)} (hc1 : Node g6 (p ++ [1]) ls1) : Node g6 p (ls0 ++ ls1) := by
  intro N M l b1 b2 b3 vp pre0 J W hN hJ hNW hM hY h0
  (try rw [List.length_append] at hM)
  obtain ⟨pa, pc, hvp⟩ := hN.own.shape
  rw [hp] at hvp
  subst hvp
  have HN := Lib.hid hN
  clear hN
  refine callsIn_of_wp_marks Tryz.func206 rfl trivial ?_ rfl
  simp only [Tryz.ntmps206, setsArgs, List.size_toArray, List.length_cons, List.length_nil, Nat.reduceAdd, Nat.reduceSub, Array.replicate_succ, Array.replicate_zero, List.push_toArray, List.append_toArray, List.nil_append, List.cons_append]
  have c1 : W.cell? ⟨b1, 0, none⟩ = some (.slice pa 0 pc) := HN.out.box1.cell 0 rfl
  have c2 : W.cell? ⟨b2, 0, none⟩ = some (.int .i64 4) := HN.out.box2.cell 0 rfl
  have c3 : W.cell? ⟨b3, 0, none⟩ = some (.int .i64 5) := HN.out.box3.cell 0 rfl
  have l1 := HN.out.box1.lt
  have l2 := HN.out.box2.lt
  have l3 := HN.out.box3.lt
  gi_wp2
  have e0 : Ext W (W.alloc (.cells #[.func (.yield l) #[] #[]] 306)) := Ext.alloc _ _
  have hR0 : Hid (RI g6 b1 b2 b3 W.heap.size (.slice pa 0 pc) p l J pre0 W.heap.size [] [] (W.alloc (.cells #[.func (.yield l) #[] #[]] 306))) :=
    ⟨by show J _ _; rw [List.append_nil]; exact hJ _ _ _ none h0 (grown_ext e0 none) (fun r e => by cases e), HN.out.keep (KP.ext (N := N) e0 HN.out.fin.1), BoxAt.new _ _ _, new_safe HN.out.fin e0 (Nat.le_refl _), e0.size, DefAt.nil _⟩
  have hV0 := e0.size
  have hn0 : ∀ D, D ∈ ([] : List Nat) → W.heap.size ≤ D := fun _ h => absurd h (by simp)
  have hdup0 : ([] : List Nat).Nodup := List.nodup_nil
  generalize (W.alloc (.cells #[.func (.yield l) #[] #[]] 306)) = V0 at *
  generalize W.heap.size = b4 at hR0 ⊢
  clear c1 c2 c3 l1 l2 l3 e0 HN
  refine wpIn_loop_rounds 3 ?_
  -- round 0
  rw [roundsIn_succ]
  have c1 : V0.cell? ⟨b1, 0, none⟩ = some (.slice pa 0 pc) := hR0.out.node.box1.cell 0 rfl
  have c2 : V0.cell? ⟨b2, 0, none⟩ = some (.int .i64 4) := hR0.out.node.box2.cell 0 rfl
  have c3 : V0.cell? ⟨b3, 0, none⟩ = some (.int .i64 5) := hR0.out.node.box3.cell 0 rfl
  have l1 := hR0.out.node.box1.lt
  have l2 := hR0.out.node.box2.lt
  have l3 := hR0.out.node.box3.lt
  gi_wp2
  refine reg9_any (d := 0) hp (by decide) c1 c2 c3 l1 l2 l3 hR0.out.node.own ?_ _ (by kernel_rfl)
  intro v5 v4 a6 c6 wo ex ho
  gi_wp2
  refine rng_any (q := p ++ [0]) hc0 hR0.out.node hR0.out.box4 hR0.out.bad4 hJ (by omega) (by omega) (by (try rw [List.length_append]); omega) hY hR0.out.defs (fun D h => Nat.le_trans hNW (hn0 D h)) (show J (pre0) _ from by rw [← List.append_nil (pre0)]; exact hR0.out.j) ex ho ?_ _ (by kernel_rfl)
  intro xs0 V1 D0 hxs0 hr1 hD0 hDN0
  have hR1 := Lib.hid hr1
  have hlx0 : xs0.length = ls0.length := by rw [← hxs0, List.length_map]
  have hV1 : W.heap.size ≤ V1.heap.size := Nat.le_trans hV0 hr1.size
  have hn1 : ∀ D, D ∈ D0 :: [] → W.heap.size ≤ D := fun D h => by rcases List.mem_cons.1 h with rfl | h; exact Nat.le_trans hV0 hDN0; exact hn0 D h
  have hdup1 : (D0 :: []).Nodup := List.nodup_cons.2 ⟨hD0, hdup0⟩
  clear hr1 c1 c2 c3 l1 l2 l3 ex ho
  gi_wp2
  -- round 1
  rw [roundsIn_succ]
  have c1 : V1.cell? ⟨b1, 0, none⟩ = some (.slice pa 0 pc) := hR1.out.node.box1.cell 0 rfl
  have c2 : V1.cell? ⟨b2, 0, none⟩ = some (.int .i64 4) := hR1.out.node.box2.cell 0 rfl
  have c3 : V1.cell? ⟨b3, 0, none⟩ = some (.int .i64 5) := hR1.out.node.box3.cell 0 rfl
  have l1 := hR1.out.node.box1.lt
  have l2 := hR1.out.node.box2.lt
  have l3 := hR1.out.node.box3.lt
  gi_wp2
  refine reg9_any (d := 1) hp (by decide) c1 c2 c3 l1 l2 l3 hR1.out.node.own ?_ _ (by kernel_rfl)
  intro v5 v4 a6 c6 wo ex ho
  gi_wp2
  refine rng_any (q := p ++ [1]) hc1 hR1.out.node hR1.out.box4 hR1.out.bad4 hJ (by omega) (by omega) (by (try rw [List.length_append]); omega) hY hR1.out.defs (fun D h => Nat.le_trans hNW (hn1 D h)) (show J (pre0 ++ xs0) _ from by rw [← List.append_nil (pre0 ++ xs0)]; exact hR1.out.j) ex ho ?_ _ (by kernel_rfl)
  intro xs1 V2 D1 hxs1 hr2 hD1 hDN1
  have hR2 := Lib.hid hr2
  have hlx1 : xs1.length = ls1.length := by rw [← hxs1, List.length_map]
  have hV2 : W.heap.size ≤ V2.heap.size := Nat.le_trans hV1 hr2.size
  have hn2 : ∀ D, D ∈ D1 :: [D0] → W.heap.size ≤ D := fun D h => by rcases List.mem_cons.1 h with rfl | h; exact Nat.le_trans hV1 hDN1; exact hn1 D h
  have hdup2 : (D1 :: [D0]).Nodup := List.nodup_cons.2 ⟨hD1, hdup1⟩
  clear hr2 c1 c2 c3 l1 l2 l3 ex ho
  gi_wp2
  -- the end
  rw [roundsIn_succ]
  have c1 : V2.cell? ⟨b1, 0, none⟩ = some (.slice pa 0 pc) := hR2.out.node.box1.cell 0 rfl
  have c2 : V2.cell? ⟨b2, 0, none⟩ = some (.int .i64 4) := hR2.out.node.box2.cell 0 rfl
  have c3 : V2.cell? ⟨b3, 0, none⟩ = some (.int .i64 5) := hR2.out.node.box3.cell 0 rfl
  have l1 := hR2.out.node.box1.lt
  have l2 := hR2.out.node.box2.lt
  have l3 := hR2.out.node.box3.lt
  gi_wp2
  refine leaves_marks [D1, D0] V2 hR2.out.defs hdup2 (fun W' hW' => ⟨_, results_none rfl _ _ _, ⟨_, rfl⟩, xs0 ++ xs1, by rw [List.map_append, hxs0, hxs1], hW' (J (pre0 ++ (xs0 ++ xs1))) (fun V D o hv hd hk => hJ.putObj _ hv (hn2 D hd) hk rfl) ?_⟩)
  rw [← List.append_nil (pre0 ++ _), ← List.append_assoc pre0]
  exact hR2.out.j
set_option maxHeartbeats 8000000 in
theorem node_1_1 {g6 : Nat} {p : List Int} (hp : p.length = 1) (hlast : p.getD 0 0 = 0) {ls0 : List (List Int)} (hc0 : Node g6 (p ++ [1]) ls0) {ls1 : List (List Int)} (hc1 : Node g6 (p ++ [2]) ls1) : Node g6 p (ls0 ++ ls1) := by
  intro N M l b1 b2 b3 vp pre0 J W hN hJ hNW hM hY h0
  (try rw [List.length_append] at hM)
  obtain ⟨pa, pc, hvp⟩ := hN.own.shape
  rw [hp] at hvp
  subst hvp
  obtain ⟨pb, po, rfl, hpbl, hpl⟩ := hN.own.slice.get 0 (by omega)
  rw [show p[0] = 0 from by rw [← getD_in (d := 0)]; exact hlast] at hpl
  (try simp only [Nat.add_zero] at hpl)
  have HN := Lib.hid hN
  clear hN
  refine callsIn_of_wp_marks Tryz.func206 rfl trivial ?_ rfl
  simp only [Tryz.ntmps206, setsArgs, List.size_toArray, List.length_cons, List.length_nil, Nat.reduceAdd, Nat.reduceSub, Array.replicate_succ, Array.replicate_zero, List.push_toArray, List.append_toArray, List.nil_append, List.cons_append]
  have c1 : W.cell? ⟨b1, 0, none⟩ = some (.slice (some ⟨pb, po, none⟩) 1 pc) := HN.out.box1.cell 0 rfl
  have c2 : W.cell? ⟨b2, 0, none⟩ = some (.int .i64 4) := HN.out.box2.cell 0 rfl
  have c3 : W.cell? ⟨b3, 0, none⟩ = some (.int .i64 5) := HN.out.box3.cell 0 rfl
  have l1 := HN.out.box1.lt
  have l2 := HN.out.box2.lt
  have l3 := HN.out.box3.lt
  gi_wp2
  have e0 : Ext W (W.alloc (.cells #[.func (.yield l) #[] #[]] 306)) := Ext.alloc _ _
  have hR0 : Hid (RI g6 b1 b2 b3 W.heap.size (.slice (some ⟨pb, po, none⟩) 1 pc) p l J pre0 W.heap.size [] [] (W.alloc (.cells #[.func (.yield l) #[] #[]] 306))) :=
    ⟨by show J _ _; rw [List.append_nil]; exact hJ _ _ _ none h0 (grown_ext e0 none) (fun r e => by cases e), HN.out.keep (KP.ext (N := N) e0 HN.out.fin.1), BoxAt.new _ _ _, new_safe HN.out.fin e0 (Nat.le_refl _), e0.size, DefAt.nil _⟩
  have hV0 := e0.size
  have hn0 : ∀ D, D ∈ ([] : List Nat) → W.heap.size ≤ D := fun _ h => absurd h (by simp)
  have hdup0 : ([] : List Nat).Nodup := List.nodup_nil
  generalize (W.alloc (.cells #[.func (.yield l) #[] #[]] 306)) = V0 at *
  generalize W.heap.size = b4 at hR0 ⊢
  clear c1 c2 c3 l1 l2 l3 e0 HN
  refine wpIn_loop_rounds 3 ?_
  -- round 0
  rw [roundsIn_succ]
  have c1 : V0.cell? ⟨b1, 0, none⟩ = some (.slice (some ⟨pb, po, none⟩) 1 pc) := hR0.out.node.box1.cell 0 rfl
  have c2 : V0.cell? ⟨b2, 0, none⟩ = some (.int .i64 4) := hR0.out.node.box2.cell 0 rfl
  have c3 : V0.cell? ⟨b3, 0, none⟩ = some (.int .i64 5) := hR0.out.node.box3.cell 0 rfl
  have l1 := hR0.out.node.box1.lt
  have l2 := hR0.out.node.box2.lt
  have l3 := hR0.out.node.box3.lt
  gi_wp2
  refine reg9_any (d := 1) hp (by decide) c1 c2 c3 l1 l2 l3 hR0.out.node.own ?_ _ (by kernel_rfl)
  intro v5 v4 a6 c6 wo ex ho
  gi_wp2
  refine rng_any (q := p ++ [1]) hc0 hR0.out.node hR0.out.box4 hR0.out.bad4 hJ (by omega) (by omega) (by (try rw [List.length_append]); omega) hY hR0.out.defs (fun D h => Nat.le_trans hNW (hn0 D h)) (show J (pre0) _ from by rw [← List.append_nil (pre0)]; exact hR0.out.j) ex ho ?_ _ (by kernel_rfl)
  intro xs0 V1 D0 hxs0 hr1 hD0 hDN0
  have hR1 := Lib.hid hr1
  have hlx0 : xs0.length = ls0.length := by rw [← hxs0, List.length_map]
  have hV1 : W.heap.size ≤ V1.heap.size := Nat.le_trans hV0 hr1.size
  have hn1 : ∀ D, D ∈ D0 :: [] → W.heap.size ≤ D := fun D h => by rcases List.mem_cons.1 h with rfl | h; exact Nat.le_trans hV0 hDN0; exact hn0 D h
  have hdup1 : (D0 :: []).Nodup := List.nodup_cons.2 ⟨hD0, hdup0⟩
  clear hr1 c1 c2 c3 l1 l2 l3 ex ho
  gi_wp2
  -- round 1
  rw [roundsIn_succ]
  have c1 : V1.cell? ⟨b1, 0, none⟩ = some (.slice (some ⟨pb, po, none⟩) 1 pc) := hR1.out.node.box1.cell 0 rfl
  have c2 : V1.cell? ⟨b2, 0, none⟩ = some (.int .i64 4) := hR1.out.node.box2.cell 0 rfl
  have c3 : V1.cell? ⟨b3, 0, none⟩ = some (.int .i64 5) := hR1.out.node.box3.cell 0 rfl
  have l1 := hR1.out.node.box1.lt
  have l2 := hR1.out.node.box2.lt
  have l3 := hR1.out.node.box3.lt
  gi_wp2
  refine reg9_any (d := 2) hp (by decide) c1 c2 c3 l1 l2 l3 hR1.out.node.own ?_ _ (by kernel_rfl)
  intro v5 v4 a6 c6 wo ex ho
  gi_wp2
  refine rng_any (q := p ++ [2]) hc1 hR1.out.node hR1.out.box4 hR1.out.bad4 hJ (by omega) (by omega) (by (try rw [List.length_append]); omega) hY hR1.out.defs (fun D h => Nat.le_trans hNW (hn1 D h)) (show J (pre0 ++ xs0) _ from by rw [← List.append_nil (pre0 ++ xs0)]; exact hR1.out.j) ex ho ?_ _ (by kernel_rfl)
  intro xs1 V2 D1 hxs1 hr2 hD1 hDN1
  have hR2 := Lib.hid hr2
  have hlx1 : xs1.length = ls1.length := by rw [← hxs1, List.length_map]
  have hV2 : W.heap.size ≤ V2.heap.size := Nat.le_trans hV1 hr2.size
  have hn2 : ∀ D, D ∈ D1 :: [D0] → W.heap.size ≤ D := fun D h => by rcases List.mem_cons.1 h with rfl | h; exact Nat.le_trans hV1 hDN1; exact hn1 D h
  have hdup2 : (D1 :: [D0]).Nodup := List.nodup_cons.2 ⟨hD1, hdup1⟩
  clear hr2 c1 c2 c3 l1 l2 l3 ex ho
  gi_wp2
  -- the end
  rw [roundsIn_succ]
  have c1 : V2.cell? ⟨b1, 0, none⟩ = some (.slice (some ⟨pb, po, none⟩) 1 pc) := hR2.out.node.box1.cell 0 rfl
  have c2 : V2.cell? ⟨b2, 0, none⟩ = some (.int .i64 4) := hR2.out.node.box2.cell 0 rfl
  have c3 : V2.cell? ⟨b3, 0, none⟩ = some (.int .i64 5) := hR2.out.node.box3.cell 0 rfl
  have l1 := hR2.out.node.box1.lt
  have l2 := hR2.out.node.box2.lt
  have l3 := hR2.out.node.box3.lt
  gi_wp2
  refine leaves_marks [D1, D0] V2 hR2.out.defs hdup2 (fun W' hW' => ⟨_, results_none rfl _ _ _, ⟨_, rfl⟩, xs0 ++ xs1, by rw [List.map_append, hxs0, hxs1], hW' (J (pre0 ++ (xs0 ++ xs1))) (fun V D o hv hd hk => hJ.putObj _ hv (hn2 D hd) hk rfl) ?_⟩)
  rw [← List.append_nil (pre0 ++ _), ← List.append_assoc pre0]
  exact hR2.out.j
set_option maxHeartbeats 8000000 in
theorem node_1_0 {g6 : Nat} {p : List Int} (hp : p.length = 1) (hlast : p.getD 0 0 = 1) {ls0 : List (List Int)} (hc0 : Node g6 (p ++ [2]) ls0) : Node g6 p (ls0) := by
  intro N M l b1 b2 b3 vp pre0 J W hN hJ hNW hM hY h0
  (try rw [List.length_append] at hM)
  obtain ⟨pa, pc, hvp⟩ := hN.own.shape
  rw [hp] at hvp
  subst hvp
  obtain ⟨pb, po, rfl, hpbl, hpl⟩ := hN.own.slice.get 0 (by omega)
  rw [show p[0] = 1 from by rw [← getD_in (d := 0)]; exact hlast] at hpl
  (try simp only [Nat.add_zero] at hpl)
  have HN := Lib.hid hN
  clear hN
  refine callsIn_of_wp_marks Tryz.func206 rfl trivial ?_ rfl
  simp only [Tryz.ntmps206, setsArgs, List.size_toArray, List.length_cons, List.length_nil, Nat.reduceAdd, Nat.reduceSub, Array.replicate_succ, Array.replicate_zero, List.push_toArray, List.append_toArray, List.nil_append, List.cons_append]
  have c1 : W.cell? ⟨b1, 0, none⟩ = some (.slice (some ⟨pb, po, none⟩) 1 pc) := HN.out.box1.cell 0 rfl
  have c2 : W.cell? ⟨b2, 0, none⟩ = some (.int .i64 4) := HN.out.box2.cell 0 rfl
  have c3 : W.cell? ⟨b3, 0, none⟩ = some (.int .i64 5) := HN.out.box3.cell 0 rfl
  have l1 := HN.out.box1.lt
  have l2 := HN.out.box2.lt
  have l3 := HN.out.box3.lt
  gi_wp2
  have e0 : Ext W (W.alloc (.cells #[.func (.yield l) #[] #[]] 306)) := Ext.alloc _ _
  have hR0 : Hid (RI g6 b1 b2 b3 W.heap.size (.slice (some ⟨pb, po, none⟩) 1 pc) p l J pre0 W.heap.size [] [] (W.alloc (.cells #[.func (.yield l) #[] #[]] 306))) :=
    ⟨by show J _ _; rw [List.append_nil]; exact hJ _ _ _ none h0 (grown_ext e0 none) (fun r e => by cases e), HN.out.keep (KP.ext (N := N) e0 HN.out.fin.1), BoxAt.new _ _ _, new_safe HN.out.fin e0 (Nat.le_refl _), e0.size, DefAt.nil _⟩
  have hV0 := e0.size
  have hn0 : ∀ D, D ∈ ([] : List Nat) → W.heap.size ≤ D := fun _ h => absurd h (by simp)
  have hdup0 : ([] : List Nat).Nodup := List.nodup_nil
  generalize (W.alloc (.cells #[.func (.yield l) #[] #[]] 306)) = V0 at *
  generalize W.heap.size = b4 at hR0 ⊢
  clear c1 c2 c3 l1 l2 l3 e0 HN
  refine wpIn_loop_rounds 2 ?_
  -- round 0
  rw [roundsIn_succ]
  have c1 : V0.cell? ⟨b1, 0, none⟩ = some (.slice (some ⟨pb, po, none⟩) 1 pc) := hR0.out.node.box1.cell 0 rfl
  have c2 : V0.cell? ⟨b2, 0, none⟩ = some (.int .i64 4) := hR0.out.node.box2.cell 0 rfl
  have c3 : V0.cell? ⟨b3, 0, none⟩ = some (.int .i64 5) := hR0.out.node.box3.cell 0 rfl
  have l1 := hR0.out.node.box1.lt
  have l2 := hR0.out.node.box2.lt
  have l3 := hR0.out.node.box3.lt
  gi_wp2
  refine reg9_any (d := 2) hp (by decide) c1 c2 c3 l1 l2 l3 hR0.out.node.own ?_ _ (by kernel_rfl)
  intro v5 v4 a6 c6 wo ex ho
  gi_wp2
  refine rng_any (q := p ++ [2]) hc0 hR0.out.node hR0.out.box4 hR0.out.bad4 hJ (by omega) (by omega) (by (try rw [List.length_append]); omega) hY hR0.out.defs (fun D h => Nat.le_trans hNW (hn0 D h)) (show J (pre0) _ from by rw [← List.append_nil (pre0)]; exact hR0.out.j) ex ho ?_ _ (by kernel_rfl)
  intro xs0 V1 D0 hxs0 hr1 hD0 hDN0
  have hR1 := Lib.hid hr1
  have hlx0 : xs0.length = ls0.length := by rw [← hxs0, List.length_map]
  have hV1 : W.heap.size ≤ V1.heap.size := Nat.le_trans hV0 hr1.size
  have hn1 : ∀ D, D ∈ D0 :: [] → W.heap.size ≤ D := fun D h => by rcases List.mem_cons.1 h with rfl | h; exact Nat.le_trans hV0 hDN0; exact hn0 D h
  have hdup1 : (D0 :: []).Nodup := List.nodup_cons.2 ⟨hD0, hdup0⟩
  clear hr1 c1 c2 c3 l1 l2 l3 ex ho
  gi_wp2
  -- the end
  rw [roundsIn_succ]
  have c1 : V1.cell? ⟨b1, 0, none⟩ = some (.slice (some ⟨pb, po, none⟩) 1 pc) := hR1.out.node.box1.cell 0 rfl
  have c2 : V1.cell? ⟨b2, 0, none⟩ = some (.int .i64 4) := hR1.out.node.box2.cell 0 rfl
  have c3 : V1.cell? ⟨b3, 0, none⟩ = some (.int .i64 5) := hR1.out.node.box3.cell 0 rfl
  have l1 := hR1.out.node.box1.lt
  have l2 := hR1.out.node.box2.lt
  have l3 := hR1.out.node.box3.lt
  gi_wp2
  refine leaves_marks [D0] V1 hR1.out.defs hdup1 (fun W' hW' => ⟨_, results_none rfl _ _ _, ⟨_, rfl⟩, xs0, by exact hxs0, hW' (J (pre0 ++ (xs0))) (fun V D o hv hd hk => hJ.putObj _ hv (hn1 D hd) hk rfl) ?_⟩)
  rw [← List.append_nil (pre0 ++ _)]
  exact hR1.out.j
set_option maxHeartbeats 8000000 in
theorem node_2_1 {g6 : Nat} {p : List Int} (hp : p.length = 2) (hlast : p.getD 1 0 = 1) {ls0 : List (List Int)} (hc0 : Node g6 (p ++ [2]) ls0) {ls1 : List (List Int)} (hc1 : Node g6 (p ++ [3]) ls1) : Node g6 p (ls0 ++ ls1) := by
  intro N M l b1 b2 b3 vp pre0 J W hN hJ hNW hM hY h0
  (try rw [List.length_append] at hM)
  obtain ⟨pa, pc, hvp⟩ := hN.own.shape
  rw [hp] at hvp
  subst hvp
  obtain ⟨pb, po, rfl, hpbl, hpl⟩ := hN.own.slice.get 1 (by omega)
  rw [show p[1] = 1 from by rw [← getD_in (d := 0)]; exact hlast] at hpl
  (try simp only [Nat.add_zero] at hpl)
  have HN := Lib.hid hN
  clear hN
  refine callsIn_of_wp_marks Tryz.func206 rfl trivial ?_ rfl
  simp only [Tryz.ntmps206, setsArgs, List.size_toArray, List.length_cons, List.length_nil, Nat.reduceAdd, Nat.reduceSub, Array.replicate_succ, Array.replicate_zero, List.push_toArray, List.append_toArray, List.nil_append, List.cons_append]
  have c1 : W.cell? ⟨b1, 0, none⟩ = some (.slice (some ⟨pb, po, none⟩) 2 pc) := HN.out.box1.cell 0 rfl
  have c2 : W.cell? ⟨b2, 0, none⟩ = some (.int .i64 4) := HN.out.box2.cell 0 rfl
  have c3 : W.cell? ⟨b3, 0, none⟩ = some (.int .i64 5) := HN.out.box3.cell 0 rfl
  have l1 := HN.out.box1.lt
  have l2 := HN.out.box2.lt
  have l3 := HN.out.box3.lt
  gi_wp2
  have e0 : Ext W (W.alloc (.cells #[.func (.yield l) #[] #[]] 306)) := Ext.alloc _ _
  have hR0 : Hid (RI g6 b1 b2 b3 W.heap.size (.slice (some ⟨pb, po, none⟩) 2 pc) p l J pre0 W.heap.size [] [] (W.alloc (.cells #[.func (.yield l) #[] #[]] 306))) :=
    ⟨by show J _ _; rw [List.append_nil]; exact hJ _ _ _ none h0 (grown_ext e0 none) (fun r e => by cases e), HN.out.keep (KP.ext (N := N) e0 HN.out.fin.1), BoxAt.new _ _ _, new_safe HN.out.fin e0 (Nat.le_refl _), e0.size, DefAt.nil _⟩
  have hV0 := e0.size
  have hn0 : ∀ D, D ∈ ([] : List Nat) → W.heap.size ≤ D := fun _ h => absurd h (by simp)
  have hdup0 : ([] : List Nat).Nodup := List.nodup_nil
  generalize (W.alloc (.cells #[.func (.yield l) #[] #[]] 306)) = V0 at *
  generalize W.heap.size = b4 at hR0 ⊢
  clear c1 c2 c3 l1 l2 l3 e0 HN
  refine wpIn_loop_rounds 3 ?_
  -- round 0
  rw [roundsIn_succ]
  have c1 : V0.cell? ⟨b1, 0, none⟩ = some (.slice (some ⟨pb, po, none⟩) 2 pc) := hR0.out.node.box1.cell 0 rfl
  have c2 : V0.cell? ⟨b2, 0, none⟩ = some (.int .i64 4) := hR0.out.node.box2.cell 0 rfl
  have c3 : V0.cell? ⟨b3, 0, none⟩ = some (.int .i64 5) := hR0.out.node.box3.cell 0 rfl
  have l1 := hR0.out.node.box1.lt
  have l2 := hR0.out.node.box2.lt
  have l3 := hR0.out.node.box3.lt
  gi_wp2
  refine reg9_any (d := 2) hp (by decide) c1 c2 c3 l1 l2 l3 hR0.out.node.own ?_ _ (by kernel_rfl)
  intro v5 v4 a6 c6 wo ex ho
  gi_wp2
  refine rng_any (q := p ++ [2]) hc0 hR0.out.node hR0.out.box4 hR0.out.bad4 hJ (by omega) (by omega) (by (try rw [List.length_append]); omega) hY hR0.out.defs (fun D h => Nat.le_trans hNW (hn0 D h)) (show J (pre0) _ from by rw [← List.append_nil (pre0)]; exact hR0.out.j) ex ho ?_ _ (by kernel_rfl)
  intro xs0 V1 D0 hxs0 hr1 hD0 hDN0
  have hR1 := Lib.hid hr1
  have hlx0 : xs0.length = ls0.length := by rw [← hxs0, List.length_map]
  have hV1 : W.heap.size ≤ V1.heap.size := Nat.le_trans hV0 hr1.size
  have hn1 : ∀ D, D ∈ D0 :: [] → W.heap.size ≤ D := fun D h => by rcases List.mem_cons.1 h with rfl | h; exact Nat.le_trans hV0 hDN0; exact hn0 D h
  have hdup1 : (D0 :: []).Nodup := List.nodup_cons.2 ⟨hD0, hdup0⟩
  clear hr1 c1 c2 c3 l1 l2 l3 ex ho
  gi_wp2
  -- round 1
  rw [roundsIn_succ]
  have c1 : V1.cell? ⟨b1, 0, none⟩ = some (.slice (some ⟨pb, po, none⟩) 2 pc) := hR1.out.node.box1.cell 0 rfl
  have c2 : V1.cell? ⟨b2, 0, none⟩ = some (.int .i64 4) := hR1.out.node.box2.cell 0 rfl
  have c3 : V1.cell? ⟨b3, 0, none⟩ = some (.int .i64 5) := hR1.out.node.box3.cell 0 rfl
  have l1 := hR1.out.node.box1.lt
  have l2 := hR1.out.node.box2.lt
  have l3 := hR1.out.node.box3.lt
  gi_wp2
  refine reg9_any (d := 3) hp (by decide) c1 c2 c3 l1 l2 l3 hR1.out.node.own ?_ _ (by kernel_rfl)
  intro v5 v4 a6 c6 wo ex ho
  gi_wp2
  refine rng_any (q := p ++ [3]) hc1 hR1.out.node hR1.out.box4 hR1.out.bad4 hJ (by omega) (by omega) (by (try rw [List.length_append]); omega) hY hR1.out.defs (fun D h => Nat.le_trans hNW (hn1 D h)) (show J (pre0 ++ xs0) _ from by rw [← List.append_nil (pre0 ++ xs0)]; exact hR1.out.j) ex ho ?_ _ (by kernel_rfl)
  intro xs1 V2 D1 hxs1 hr2 hD1 hDN1
  have hR2 := Lib.hid hr2
  have hlx1 : xs1.length = ls1.length := by rw [← hxs1, List.length_map]
  have hV2 : W.heap.size ≤ V2.heap.size := Nat.le_trans hV1 hr2.size
  have hn2 : ∀ D, D ∈ D1 :: [D0] → W.heap.size ≤ D := fun D h => by rcases List.mem_cons.1 h with rfl | h; exact Nat.le_trans hV1 hDN1; exact hn1 D h
  have hdup2 : (D1 :: [D0]).Nodup := List.nodup_cons.2 ⟨hD1, hdup1⟩
  clear hr2 c1 c2 c3 l1 l2 l3 ex ho
  gi_wp2
  -- the end
  rw [roundsIn_succ]
  have c1 : V2.cell? ⟨b1, 0, none⟩ = some (.slice (some ⟨pb, po, none⟩) 2 pc) := hR2.out.node.box1.cell 0 rfl
  have c2 : V2.cell? ⟨b2, 0, none⟩ = some (.int .i64 4) := hR2.out.node.box2.cell 0 rfl
  have c3 : V2.cell? ⟨b3, 0, none⟩ = some (.int .i64 5) := hR2.out.node.box3.cell 0 rfl
  have l1 := hR2.out.node.box1.lt
  have l2 := hR2.out.node.box2.lt
  have l3 := hR2.out.node.box3.lt
  gi_wp2
  refine leaves_marks [D1, D0] V2 hR2.out.defs hdup2 (fun W' hW' => ⟨_, results_none rfl _ _ _, ⟨_, rfl⟩, xs0 ++ xs1, by rw [List.map_append, hxs0, hxs1], hW' (J (pre0 ++ (xs0 ++ xs1))) (fun V D o hv hd hk => hJ.putObj _ hv (hn2 D hd) hk rfl) ?_⟩)
  rw [← List.append_nil (pre0 ++ _), ← List.append_assoc pre0]
  exact hR2.out.j
set_option maxHeartbeats 8000000 in
theorem node_2_0 {g6 : Nat} {p : List Int} (hp : p.length = 2) (hlast : p.getD 1 0 = 2) {ls0 : List (List Int)} (hc0 : Node g6 (p ++ [3]) ls0) : Node g6 p (ls0) := by
  intro N M l b1 b2 b3 vp pre0 J W hN hJ hNW hM hY h0
  (try rw [List.length_append] at hM)
  obtain ⟨pa, pc, hvp⟩ := hN.own.shape
  rw [hp] at hvp
  subst hvp
  obtain ⟨pb, po, rfl, hpbl, hpl⟩ := hN.own.slice.get 1 (by omega)
  rw [show p[1] = 2 from by rw [← getD_in (d := 0)]; exact hlast] at hpl
  (try simp only [Nat.add_zero] at hpl)
  have HN := Lib.hid hN
  clear hN
  refine callsIn_of_wp_marks Tryz.func206 rfl trivial ?_ rfl
  simp only [Tryz.ntmps206, setsArgs, List.size_toArray, List.length_cons, List.length_nil, Nat.reduceAdd, Nat.reduceSub, Array.replicate_succ, Array.replicate_zero, List.push_toArray, List.append_toArray, List.nil_append, List.cons_append]
  have c1 : W.cell? ⟨b1, 0, none⟩ = some (.slice (some ⟨pb, po, none⟩) 2 pc) := HN.out.box1.cell 0 rfl
  have c2 : W.cell? ⟨b2, 0, none⟩ = some (.int .i64 4) := HN.out.box2.cell 0 rfl
  have c3 : W.cell? ⟨b3, 0, none⟩ = some (.int .i64 5) := HN.out.box3.cell 0 rfl
  have l1 := HN.out.box1.lt
  have l2 := HN.out.box2.lt
  have l3 := HN.out.box3.lt
  gi_wp2
  have e0 : Ext W (W.alloc (.cells #[.func (.yield l) #[] #[]] 306)) := Ext.alloc _ _
  have hR0 : Hid (RI g6 b1 b2 b3 W.heap.size (.slice (some ⟨pb, po, none⟩) 2 pc) p l J pre0 W.heap.size [] [] (W.alloc (.cells #[.func (.yield l) #[] #[]] 306))) :=
    ⟨by show J _ _; rw [List.append_nil]; exact hJ _ _ _ none h0 (grown_ext e0 none) (fun r e => by cases e), HN.out.keep (KP.ext (N := N) e0 HN.out.fin.1), BoxAt.new _ _ _, new_safe HN.out.fin e0 (Nat.le_refl _), e0.size, DefAt.nil _⟩
  have hV0 := e0.size
  have hn0 : ∀ D, D ∈ ([] : List Nat) → W.heap.size ≤ D := fun _ h => absurd h (by simp)
  have hdup0 : ([] : List Nat).Nodup := List.nodup_nil
  generalize (W.alloc (.cells #[.func (.yield l) #[] #[]] 306)) = V0 at *
  generalize W.heap.size = b4 at hR0 ⊢
  clear c1 c2 c3 l1 l2 l3 e0 HN
  refine wpIn_loop_rounds 2 ?_
  -- round 0
  rw [roundsIn_succ]
  have c1 : V0.cell? ⟨b1, 0, none⟩ = some (.slice (some ⟨pb, po, none⟩) 2 pc) := hR0.out.node.box1.cell 0 rfl
  have c2 : V0.cell? ⟨b2, 0, none⟩ = some (.int .i64 4) := hR0.out.node.box2.cell 0 rfl
  have c3 : V0.cell? ⟨b3, 0, none⟩ = some (.int .i64 5) := hR0.out.node.box3.cell 0 rfl
  have l1 := hR0.out.node.box1.lt
  have l2 := hR0.out.node.box2.lt
  have l3 := hR0.out.node.box3.lt
  gi_wp2
  refine reg9_any (d := 3) hp (by decide) c1 c2 c3 l1 l2 l3 hR0.out.node.own ?_ _ (by kernel_rfl)
  intro v5 v4 a6 c6 wo ex ho
  gi_wp2
  refine rng_any (q := p ++ [3]) hc0 hR0.out.node hR0.out.box4 hR0.out.bad4 hJ (by omega) (by omega) (by (try rw [List.length_append]); omega) hY hR0.out.defs (fun D h => Nat.le_trans hNW (hn0 D h)) (show J (pre0) _ from by rw [← List.append_nil (pre0)]; exact hR0.out.j) ex ho ?_ _ (by kernel_rfl)
  intro xs0 V1 D0 hxs0 hr1 hD0 hDN0
  have hR1 := Lib.hid hr1
  have hlx0 : xs0.length = ls0.length := by rw [← hxs0, List.length_map]
  have hV1 : W.heap.size ≤ V1.heap.size := Nat.le_trans hV0 hr1.size
  have hn1 : ∀ D, D ∈ D0 :: [] → W.heap.size ≤ D := fun D h => by rcases List.mem_cons.1 h with rfl | h; exact Nat.le_trans hV0 hDN0; exact hn0 D h
  have hdup1 : (D0 :: []).Nodup := List.nodup_cons.2 ⟨hD0, hdup0⟩
  clear hr1 c1 c2 c3 l1 l2 l3 ex ho
  gi_wp2
  -- the end
  rw [roundsIn_succ]
  have c1 : V1.cell? ⟨b1, 0, none⟩ = some (.slice (some ⟨pb, po, none⟩) 2 pc) := hR1.out.node.box1.cell 0 rfl
  have c2 : V1.cell? ⟨b2, 0, none⟩ = some (.int .i64 4) := hR1.out.node.box2.cell 0 rfl
  have c3 : V1.cell? ⟨b3, 0, none⟩ = some (.int .i64 5) := hR1.out.node.box3.cell 0 rfl
  have l1 := hR1.out.node.box1.lt
  have l2 := hR1.out.node.box2.lt
  have l3 := hR1.out.node.box3.lt
  gi_wp2
  refine leaves_marks [D0] V1 hR1.out.defs hdup1 (fun W' hW' => ⟨_, results_none rfl _ _ _, ⟨_, rfl⟩, xs0, by exact hxs0, hW' (J (pre0 ++ (xs0))) (fun V D o hv hd hk => hJ.putObj _ hv (hn1 D hd) hk rfl) ?_⟩)
  rw [← List.append_nil (pre0 ++ _)]
  exact hR1.out.j
set_option maxHeartbeats 8000000 in
theorem node_3_1 {g6 : Nat} {p : List Int} (hp : p.length = 3) (hlast : p.getD 2 0 = 2) {ls0 : List (List Int)} (hc0 : Node g6 (p ++ [3]) ls0) {ls1 : List (List Int)} (hc1 : Node g6 (p ++ [4]) ls1) : Node g6 p (ls0 ++ ls1) := by
  intro N M l b1 b2 b3 vp pre0 J W hN hJ hNW hM hY h0
  (try rw [List.length_append] at hM)
  obtain ⟨pa, pc, hvp⟩ := hN.own.shape
  rw [hp] at hvp
  subst hvp
  obtain ⟨pb, po, rfl, hpbl, hpl⟩ := hN.own.slice.get 2 (by omega)
  rw [show p[2] = 2 from by rw [← getD_in (d := 0)]; exact hlast] at hpl
  (try simp only [Nat.add_zero] at hpl)
  have HN := Lib.hid hN
  clear hN
  refine callsIn_of_wp_marks Tryz.func206 rfl trivial ?_ rfl
  simp only [Tryz.ntmps206, setsArgs, List.size_toArray, List.length_cons, List.length_nil, Nat.reduceAdd, Nat.reduceSub, Array.replicate_succ, Array.replicate_zero, List.push_toArray, List.append_toArray, List.nil_append, List.cons_append]
  have c1 : W.cell? ⟨b1, 0, none⟩ = some (.slice (some ⟨pb, po, none⟩) 3 pc) := HN.out.box1.cell 0 rfl
  have c2 : W.cell? ⟨b2, 0, none⟩ = some (.int .i64 4) := HN.out.box2.cell 0 rfl
  have c3 : W.cell? ⟨b3, 0, none⟩ = some (.int .i64 5) := HN.out.box3.cell 0 rfl
  have l1 := HN.out.box1.lt
  have l2 := HN.out.box2.lt
  have l3 := HN.out.box3.lt
  gi_wp2
  have e0 : Ext W (W.alloc (.cells #[.func (.yield l) #[] #[]] 306)) := Ext.alloc _ _
  have hR0 : Hid (RI g6 b1 b2 b3 W.heap.size (.slice (some ⟨pb, po, none⟩) 3 pc) p l J pre0 W.heap.size [] [] (W.alloc (.cells #[.func (.yield l) #[] #[]] 306))) :=
    ⟨by show J _ _; rw [List.append_nil]; exact hJ _ _ _ none h0 (grown_ext e0 none) (fun r e => by cases e), HN.out.keep (KP.ext (N := N) e0 HN.out.fin.1), BoxAt.new _ _ _, new_safe HN.out.fin e0 (Nat.le_refl _), e0.size, DefAt.nil _⟩
  have hV0 := e0.size
  have hn0 : ∀ D, D ∈ ([] : List Nat) → W.heap.size ≤ D := fun _ h => absurd h (by simp)
  have hdup0 : ([] : List Nat).Nodup := List.nodup_nil
  generalize (W.alloc (.cells #[.func (.yield l) #[] #[]] 306)) = V0 at *
  generalize W.heap.size = b4 at hR0 ⊢
  clear c1 c2 c3 l1 l2 l3 e0 HN
  refine wpIn_loop_rounds 3 ?_
  -- round 0
  rw [roundsIn_succ]
  have c1 : V0.cell? ⟨b1, 0, none⟩ = some (.slice (some ⟨pb, po, none⟩) 3 pc) := hR0.out.node.box1.cell 0 rfl
  have c2 : V0.cell? ⟨b2, 0, none⟩ = some (.int .i64 4) := hR0.out.node.box2.cell 0 rfl
  have c3 : V0.cell? ⟨b3, 0, none⟩ = some (.int .i64 5) := hR0.out.node.box3.cell 0 rfl
  have l1 := hR0.out.node.box1.lt
  have l2 := hR0.out.node.box2.lt
  have l3 := hR0.out.node.box3.lt
  gi_wp2
  refine reg9_any (d := 3) hp (by decide) c1 c2 c3 l1 l2 l3 hR0.out.node.own ?_ _ (by kernel_rfl)
  intro v5 v4 a6 c6 wo ex ho
  gi_wp2
  refine rng_any (q := p ++ [3]) hc0 hR0.out.node hR0.out.box4 hR0.out.bad4 hJ (by omega) (by omega) (by (try rw [List.length_append]); omega) hY hR0.out.defs (fun D h => Nat.le_trans hNW (hn0 D h)) (show J (pre0) _ from by rw [← List.append_nil (pre0)]; exact hR0.out.j) ex ho ?_ _ (by kernel_rfl)
  intro xs0 V1 D0 hxs0 hr1 hD0 hDN0
  have hR1 := Lib.hid hr1
  have hlx0 : xs0.length = ls0.length := by rw [← hxs0, List.length_map]
  have hV1 : W.heap.size ≤ V1.heap.size := Nat.le_trans hV0 hr1.size
  have hn1 : ∀ D, D ∈ D0 :: [] → W.heap.size ≤ D := fun D h => by rcases List.mem_cons.1 h with rfl | h; exact Nat.le_trans hV0 hDN0; exact hn0 D h
  have hdup1 : (D0 :: []).Nodup := List.nodup_cons.2 ⟨hD0, hdup0⟩
  clear hr1 c1 c2 c3 l1 l2 l3 ex ho
  gi_wp2
  -- round 1
  rw [roundsIn_succ]
  have c1 : V1.cell? ⟨b1, 0, none⟩ = some (.slice (some ⟨pb, po, none⟩) 3 pc) := hR1.out.node.box1.cell 0 rfl
  have c2 : V1.cell? ⟨b2, 0, none⟩ = some (.int .i64 4) := hR1.out.node.box2.cell 0 rfl
  have c3 : V1.cell? ⟨b3, 0, none⟩ = some (.int .i64 5) := hR1.out.node.box3.cell 0 rfl
  have l1 := hR1.out.node.box1.lt
  have l2 := hR1.out.node.box2.lt
  have l3 := hR1.out.node.box3.lt
  gi_wp2
  refine reg9_any (d := 4) hp (by decide) c1 c2 c3 l1 l2 l3 hR1.out.node.own ?_ _ (by kernel_rfl)
  intro v5 v4 a6 c6 wo ex ho
  gi_wp2
  refine rng_any (q := p ++ [4]) hc1 hR1.out.node hR1.out.box4 hR1.out.bad4 hJ (by omega) (by omega) (by (try rw [List.length_append]); omega) hY hR1.out.defs (fun D h => Nat.le_trans hNW (hn1 D h)) (show J (pre0 ++ xs0) _ from by rw [← List.append_nil (pre0 ++ xs0)]; exact hR1.out.j) ex ho ?_ _ (by kernel_rfl)
  intro xs1 V2 D1 hxs1 hr2 hD1 hDN1
  have hR2 := Lib.hid hr2
  have hlx1 : xs1.length = ls1.length := by rw [← hxs1, List.length_map]
  have hV2 : W.heap.size ≤ V2.heap.size := Nat.le_trans hV1 hr2.size
  have hn2 : ∀ D, D ∈ D1 :: [D0] → W.heap.size ≤ D := fun D h => by rcases List.mem_cons.1 h with rfl | h; exact Nat.le_trans hV1 hDN1; exact hn1 D h
  have hdup2 : (D1 :: [D0]).Nodup := List.nodup_cons.2 ⟨hD1, hdup1⟩
  clear hr2 c1 c2 c3 l1 l2 l3 ex ho
  gi_wp2
  -- the end
  rw [roundsIn_succ]
  have c1 : V2.cell? ⟨b1, 0, none⟩ = some (.slice (some ⟨pb, po, none⟩) 3 pc) := hR2.out.node.box1.cell 0 rfl
  have c2 : V2.cell? ⟨b2, 0, none⟩ = some (.int .i64 4) := hR2.out.node.box2.cell 0 rfl
  have c3 : V2.cell? ⟨b3, 0, none⟩ = some (.int .i64 5) := hR2.out.node.box3.cell 0 rfl
  have l1 := hR2.out.node.box1.lt
  have l2 := hR2.out.node.box2.lt
  have l3 := hR2.out.node.box3.lt
  gi_wp2
  refine leaves_marks [D1, D0] V2 hR2.out.defs hdup2 (fun W' hW' => ⟨_, results_none rfl _ _ _, ⟨_, rfl⟩, xs0 ++ xs1, by rw [List.map_append, hxs0, hxs1], hW' (J (pre0 ++ (xs0 ++ xs1))) (fun V D o hv hd hk => hJ.putObj _ hv (hn2 D hd) hk rfl) ?_⟩)
  rw [← List.append_nil (pre0 ++ _), ← List.append_assoc pre0]
  exact hR2.out.j
set_option maxHeartbeats 8000000 in
theorem node_3_0 {g6 : Nat} {p : List Int} (hp : p.length = 3) (hlast : p.getD 2 0 = 3) {ls0 : List (List Int)} (hc0 : Node g6 (p ++ [4]) ls0) : Node g6 p (ls0) := by
  intro N M l b1 b2 b3 vp pre0 J W hN hJ hNW hM hY h0
  (try rw [List.length_append] at hM)
  obtain ⟨pa, pc, hvp⟩ := hN.own.shape
  rw [hp] at hvp
  subst hvp
  obtain ⟨pb, po, rfl, hpbl, hpl⟩ := hN.own.slice.get 2 (by omega)
  rw [show p[2] = 3 from by rw [← getD_in (d := 0)]; exact hlast] at hpl
  (try simp only [Nat.add_zero] at hpl)
  have HN := Lib.hid hN
  clear hN
  refine callsIn_of_wp_marks Tryz.func206 rfl trivial ?_ rfl
  simp only [Tryz.ntmps206, setsArgs, List.size_toArray, List.length_cons, List.length_nil, Nat.reduceAdd, Nat.reduceSub, Array.replicate_succ, Array.replicate_zero, List.push_toArray, List.append_toArray, List.nil_append, List.cons_append]
  have c1 : W.cell? ⟨b1, 0, none⟩ = some (.slice (some ⟨pb, po, none⟩) 3 pc) := HN.out.box1.cell 0 rfl
  have c2 : W.cell? ⟨b2, 0, none⟩ = some (.int .i64 4) := HN.out.box2.cell 0 rfl
  have c3 : W.cell? ⟨b3, 0, none⟩ = some (.int .i64 5) := HN.out.box3.cell 0 rfl
  have l1 := HN.out.box1.lt
  have l2 := HN.out.box2.lt
  have l3 := HN.out.box3.lt
  gi_wp2
  have e0 : Ext W (W.alloc (.cells #[.func (.yield l) #[] #[]] 306)) := Ext.alloc _ _
  have hR0 : Hid (RI g6 b1 b2 b3 W.heap.size (.slice (some ⟨pb, po, none⟩) 3 pc) p l J pre0 W.heap.size [] [] (W.alloc (.cells #[.func (.yield l) #[] #[]] 306))) :=
    ⟨by show J _ _; rw [List.append_nil]; exact hJ _ _ _ none h0 (grown_ext e0 none) (fun r e => by cases e), HN.out.keep (KP.ext (N := N) e0 HN.out.fin.1), BoxAt.new _ _ _, new_safe HN.out.fin e0 (Nat.le_refl _), e0.size, DefAt.nil _⟩
  have hV0 := e0.size
  have hn0 : ∀ D, D ∈ ([] : List Nat) → W.heap.size ≤ D := fun _ h => absurd h (by simp)
  have hdup0 : ([] : List Nat).Nodup := List.nodup_nil
  generalize (W.alloc (.cells #[.func (.yield l) #[] #[]] 306)) = V0 at *
  generalize W.heap.size = b4 at hR0 ⊢
  clear c1 c2 c3 l1 l2 l3 e0 HN
  refine wpIn_loop_rounds 2 ?_
  -- round 0
  rw [roundsIn_succ]
  have c1 : V0.cell? ⟨b1, 0, none⟩ = some (.slice (some ⟨pb, po, none⟩) 3 pc) := hR0.out.node.box1.cell 0 rfl
  have c2 : V0.cell? ⟨b2, 0, none⟩ = some (.int .i64 4) := hR0.out.node.box2.cell 0 rfl
  have c3 : V0.cell? ⟨b3, 0, none⟩ = some (.int .i64 5) := hR0.out.node.box3.cell 0 rfl
  have l1 := hR0.out.node.box1.lt
  have l2 := hR0.out.node.box2.lt
  have l3 := hR0.out.node.box3.lt
  gi_wp2
  refine reg9_any (d := 4) hp (by decide) c1 c2 c3 l1 l2 l3 hR0.out.node.own ?_ _ (by kernel_rfl)
  intro v5 v4 a6 c6 wo ex ho
  gi_wp2
  refine rng_any (q := p ++ [4]) hc0 hR0.out.node hR0.out.box4 hR0.out.bad4 hJ (by omega) (by omega) (by (try rw [List.length_append]); omega) hY hR0.out.defs (fun D h => Nat.le_trans hNW (hn0 D h)) (show J (pre0) _ from by rw [← List.append_nil (pre0)]; exact hR0.out.j) ex ho ?_ _ (by kernel_rfl)
  intro xs0 V1 D0 hxs0 hr1 hD0 hDN0
  have hR1 := Lib.hid hr1
  have hlx0 : xs0.length = ls0.length := by rw [← hxs0, List.length_map]
  have hV1 : W.heap.size ≤ V1.heap.size := Nat.le_trans hV0 hr1.size
  have hn1 : ∀ D, D ∈ D0 :: [] → W.heap.size ≤ D := fun D h => by rcases List.mem_cons.1 h with rfl | h; exact Nat.le_trans hV0 hDN0; exact hn0 D h
  have hdup1 : (D0 :: []).Nodup := List.nodup_cons.2 ⟨hD0, hdup0⟩
  clear hr1 c1 c2 c3 l1 l2 l3 ex ho
  gi_wp2
  -- the end
  rw [roundsIn_succ]
  have c1 : V1.cell? ⟨b1, 0, none⟩ = some (.slice (some ⟨pb, po, none⟩) 3 pc) := hR1.out.node.box1.cell 0 rfl
  have c2 : V1.cell? ⟨b2, 0, none⟩ = some (.int .i64 4) := hR1.out.node.box2.cell 0 rfl
  have c3 : V1.cell? ⟨b3, 0, none⟩ = some (.int .i64 5) := hR1.out.node.box3.cell 0 rfl
  have l1 := hR1.out.node.box1.lt
  have l2 := hR1.out.node.box2.lt
  have l3 := hR1.out.node.box3.lt
  gi_wp2
  refine leaves_marks [D0] V1 hR1.out.defs hdup1 (fun W' hW' => ⟨_, results_none rfl _ _ _, ⟨_, rfl⟩, xs0, by exact hxs0, hW' (J (pre0 ++ (xs0))) (fun V D o hv hd hk => hJ.putObj _ hv (hn1 D hd) hk rfl) ?_⟩)
  rw [← List.append_nil (pre0 ++ _)]
  exact hR1.out.j
end Go.Proofs.YtjabgpejmnpamaaGreatDoor

namespace Go.Proofs.YtjabgpejmnpamaaGreatDoor
open Go.RowKit
set_option maxRecDepth 100000
abbrev fltV : Value := .agg #[.int .i64 0, .int .i64 0, .int .i64 0]
theorem Stored.keep {w w' : World} {g k : Nat} {cells cs : Array Value} {t t' : TypeId} (h : Stored w w' g cells t) (hb : BoxAt w k cs t') (hk : k ≠ g) : BoxAt w' k cs t' := (h.other k hk).trans hb
theorem Dsk.cells {B : Nat} {w : World} {D P C : Nat} (h : Dsk B w D P C) : ∃ r wr e f o l, BoxAt w D (dkC r wr e f o C P) 140 ∧ BoxAt w P (pwC l) 124 := by
  obtain ⟨⟨r, wr, e, f, o, h1⟩, ⟨l, h2⟩, _, _⟩ := h
  exact ⟨r, wr, e, f, o, l, h1, h2⟩
set_option maxHeartbeats 2000000 in
theorem perform_any (F : Nat) (eg : ∀ args w, (callFunc F args).run Tryz.prog w = .ok (.enter F args) w) (cap : Array Value) (B D P C : Nat) (w : World) (h : Dsk B w D P C) (hBw : B ≤ w.heap.size) (R : World → Prop)
    (hw : ∀ w1, Dsk B w1 D P C → Chg B [140, 124] w w1 → Calls Tryz.prog F (#[fltV] ++ cap) w1 fun e w' => e = .returned (.int .i64 0) ∧ R w') :
    Calls Tryz.prog 111 #[.pointer (some ⟨D, 0, none⟩), .int .u64 0, .func (.func F) #[] cap] w fun e w' => e = .returned (.int .i64 0) ∧ R w' := by
  have HW := Lib.hid hw
  have HK := Lib.hid h
  have hgD := h.geD
  have hgP := h.geP
  clear hw h
  go_enter Tryz.func111, Tryz.ntmps111
  go_wp2_with first | (go_at_call 160; refine (dstate_any B D P C _ HK.out).mono ?_; rintro e W1 ⟨rfl, hx1⟩; obtain ⟨r, wr, er, f, o, l, hd1, hp1⟩ := (HK.out.ext hx1).cells; have HD1 := Lib.hid hd1; have HP1 := Lib.hid hp1; have HX1 := Lib.hid hx1; have c12 := hd1.cell 12 (v := .pointer (some ⟨P, 0, none⟩)) rfl; have hl := hd1.lt; clear hd1 hp1 hx1) | (go_at_call 161; refine (pcall_any B P l _ hgP HP1.out).mono ?_; rintro e W2 ⟨rfl, ⟨l2, hp2⟩, hch2⟩; have HC2 := Lib.hid hch2; have HP2 := Lib.hid hp2; have HD2 := Lib.hid (HD1.out.chg hch2 (by decide)); have d14 := HD2.out.cell 14 (v := .int .u64 0) rfl; have d11 := HD2.out.cell 11 (v := .slice none 0 0) rfl; have d4 := HD2.out.cell 4 (v := .int .i64 o) rfl; have hl2 := HD2.out.lt; clear hp2 hch2 c12 hl)
  refine wp_region_extTB (.take 0 (.take 1 (.take 2 (.take 3 (.take 4 (.take 5 (.take 6 (.take 7 (.take 8 (.two 9 13 (.take 10 (.take 11 (.take 12 (.one 13 (.one 14 (.take 15 .done)))))) (.one 9 (.take 10 (.take 11 (.take 12 (.one 14 (.take 15 .done)))))))))))))))) (by kernel_rfl) (by kernel_rfl) (fun wc hxc => ?_)
  have hq := hxc
  iterate 9 ((first
   | refine extT_move rfl rfl (by rfl) (by rfl) ?_
   | refine extT_assign rfl rfl (by rfl) (by rfl) ?_
   | refine extT_pick_t rfl rfl (by rfl) (by rfl) (by rfl) ?_
   | refine extT_pick_f rfl rfl (by rfl) (by rfl) (by rfl) ?_
   | (apply extT_take rfl (by rfl)
      · intro w' hS
        have hSc := hS.cells
        (try simp only [World.size_drew, World.cell?_drew] at hSc)
        go_simp
        (try simp (disch := omega) only [i64_id, u64_id, ↓IntWalk.iteOmega, Int.tdiv_eq_ediv_of_nonneg, Int.tmod_eq_emod_of_nonneg])
        try rfl)
   | refine extT_pass rfl (by rfl) ?_); simp only [Act.put, setZa, setZ0, setZ1])
  refine extT_twoB rfl rfl (by rfl) (by rfl) (fun K hK => ?_) (fun K hK => ?_)
  go_simp
  go_at_call 162
  refine (fat_any _ _).mono ?_
  rintro e W3 ⟨rfl, hx3⟩
  refine hK _ _ (by first | exact hxc.trans hx3 | exact hxc.trans ((Ext.alloc _ _).trans hx3)) ?_
  clear hK K
  (try simp only [Act.put, setZa, setZ0, setZ1])
  iterate 3 ((first
   | refine extT_move rfl rfl (by rfl) (by rfl) ?_
   | refine extT_assign rfl rfl (by rfl) (by rfl) ?_
   | refine extT_pick_t rfl rfl (by rfl) (by rfl) (by rfl) ?_
   | refine extT_pick_f rfl rfl (by rfl) (by rfl) (by rfl) ?_
   | (apply extT_take rfl (by rfl)
      · intro w' hS
        have hSc := hS.cells
        (try simp only [World.size_drew, World.cell?_drew] at hSc)
        go_simp
        (try simp (disch := omega) only [i64_id, u64_id, ↓IntWalk.iteOmega, Int.tdiv_eq_ediv_of_nonneg, Int.tmod_eq_emod_of_nonneg])
        try rfl)
   | refine extT_pass rfl (by rfl) ?_); simp only [Act.put, setZa, setZ0, setZ1])
  refine extT_doB rfl (by rfl) (fun K hK => ?_)
  go_simp
  refine hK _ _ (by first | exact hxc.trans (Ext.alloc _ _) | exact (hxc.trans hx3).trans (Ext.alloc _ _)) ?_
  clear hK K
  (try simp only [Act.put, setZa, setZ0, setZ1])
  refine extT_doB rfl (by rfl) (fun K hK => ?_)
  refine wp_of_list rfl ?_
  refine wpList_store_box 134 _ _ rfl (by rfl) rfl rfl (by first | exact BoxAt.new W3 #[.int .i64 0, .int .i64 0, .int .i64 0] 134 | exact (BoxAt.new wc #[.int .i64 0, .int .i64 0, .int .i64 0] 134).ext hx3) rfl (by kernel_rfl) (by simp [Value.oneCell']) ?_
  intro W4 hS
  have hx4 : Ext W2 W4 := hS.bel (by first | exact (hxc.trans hx3).trans (Ext.alloc _ _) | exact hxc.trans ((Ext.alloc _ _).trans hx3)) (by first | exact (hxc.trans hx3).size | exact hxc.size)
  have HB4 := Lib.hid hS.box
  have HX4 := Lib.hid hx4
  refine hK _ _ hx4 ?_
  clear hK K hS hx4
  (try simp only [Act.put])
  iterate 1 ((first
   | refine extT_move rfl rfl (by rfl) (by rfl) ?_
   | refine extT_assign rfl rfl (by rfl) (by rfl) ?_
   | refine extT_pick_t rfl rfl (by rfl) (by rfl) (by rfl) ?_
   | refine extT_pick_f rfl rfl (by rfl) (by rfl) (by rfl) ?_
   | (apply extT_take rfl (by rfl)
      · intro w' hS
        have hSc := hS.cells
        (try simp only [World.size_drew, World.cell?_drew] at hSc)
        go_simp
        (try simp (disch := omega) only [i64_id, u64_id, ↓IntWalk.iteOmega, Int.tdiv_eq_ediv_of_nonneg, Int.tmod_eq_emod_of_nonneg])
        try rfl)
   | refine extT_pass rfl (by rfl) ?_); simp only [Act.put, setZa, setZ0, setZ1])
  refine extT_nil ?_
  skip
  rotate_left
  go_simp
  refine hK _ _ (by first | exact hxc.trans (Ext.alloc _ _) | exact (hxc.trans hx3).trans (Ext.alloc _ _)) ?_
  clear hK K
  (try simp only [Act.put, setZa, setZ0, setZ1])
  refine extT_doB rfl (by rfl) (fun K hK => ?_)
  go_simp
  go_at_call 162
  refine (fat_any _ _).mono ?_
  rintro e W3 ⟨rfl, hx3⟩
  refine hK _ _ (by first | exact hxc.trans hx3 | exact hxc.trans ((Ext.alloc _ _).trans hx3)) ?_
  clear hK K
  (try simp only [Act.put, setZa, setZ0, setZ1])
  iterate 3 ((first
   | refine extT_move rfl rfl (by rfl) (by rfl) ?_
   | refine extT_assign rfl rfl (by rfl) (by rfl) ?_
   | refine extT_pick_t rfl rfl (by rfl) (by rfl) (by rfl) ?_
   | refine extT_pick_f rfl rfl (by rfl) (by rfl) (by rfl) ?_
   | (apply extT_take rfl (by rfl)
      · intro w' hS
        have hSc := hS.cells
        (try simp only [World.size_drew, World.cell?_drew] at hSc)
        go_simp
        (try simp (disch := omega) only [i64_id, u64_id, ↓IntWalk.iteOmega, Int.tdiv_eq_ediv_of_nonneg, Int.tmod_eq_emod_of_nonneg])
        try rfl)
   | refine extT_pass rfl (by rfl) ?_); simp only [Act.put, setZa, setZ0, setZ1])
  refine extT_doB rfl (by rfl) (fun K hK => ?_)
  refine wp_of_list rfl ?_
  refine wpList_store_box 134 _ _ rfl (by rfl) rfl rfl (by first | exact BoxAt.new W3 #[.int .i64 0, .int .i64 0, .int .i64 0] 134 | exact (BoxAt.new wc #[.int .i64 0, .int .i64 0, .int .i64 0] 134).ext hx3) rfl (by kernel_rfl) (by simp [Value.oneCell']) ?_
  intro W4 hS
  have hx4 : Ext W2 W4 := hS.bel (by first | exact (hxc.trans hx3).trans (Ext.alloc _ _) | exact hxc.trans ((Ext.alloc _ _).trans hx3)) (by first | exact (hxc.trans hx3).size | exact hxc.size)
  have HB4 := Lib.hid hS.box
  have HX4 := Lib.hid hx4
  refine hK _ _ hx4 ?_
  clear hK K hS hx4
  (try simp only [Act.put])
  iterate 1 ((first
   | refine extT_move rfl rfl (by rfl) (by rfl) ?_
   | refine extT_assign rfl rfl (by rfl) (by rfl) ?_
   | refine extT_pick_t rfl rfl (by rfl) (by rfl) (by rfl) ?_
   | refine extT_pick_f rfl rfl (by rfl) (by rfl) (by rfl) ?_
   | (apply extT_take rfl (by rfl)
      · intro w' hS
        have hSc := hS.cells
        (try simp only [World.size_drew, World.cell?_drew] at hSc)
        go_simp
        (try simp (disch := omega) only [i64_id, u64_id, ↓IntWalk.iteOmega, Int.tdiv_eq_ediv_of_nonneg, Int.tmod_eq_emod_of_nonneg])
        try rfl)
   | refine extT_pass rfl (by rfl) ?_); simp only [Act.put, setZa, setZ0, setZ1])
  refine extT_nil ?_
  skip
  rotate_left
  all_goals
    have HD4 := Lib.hid (HD2.out.ext HX4.out)
    have e4 := HD4.out.cell 4 (v := .int .i64 o) rfl
    have hl4 := HD4.out.lt
    clear d14 d11 d4 hl2
    go_wp2_with (refine wpList_store_cell 3 _ _ rfl (by rfl) rfl rfl HD4.out (by simp) (by kernel_rfl) rfl ?_; intro W5 hS5; have HS5 := Lib.hid hS5; have HB5 := Lib.hid (hS5.keep HB4.out (box_ne HB4.out HD4.out (by decide))); have f0 := HB5.out.cell 0 (v := .int .i64 0) rfl; have f1 := HB5.out.cell 1 (v := .int .i64 0) rfl; have f2 := HB5.out.cell 2 (v := .int .i64 0) rfl; have hl5 := HB5.out.lt; clear hS5 e4 hl4)
    refine (HW.out W5 ⟨⟨_, _, _, _, _, HS5.out.box⟩, ⟨_, HS5.out.keep (HP2.out.ext HX4.out) (box_ne (HP2.out.ext HX4.out) HD4.out (by decide))⟩, hgD, hgP⟩ ?_).mono ?_
    · exact ((((Chg.ext HX1.out hBw).trans (HC2.out.wide (by decide))).more HX4.out hBw).stored HD4.out HS5.out (by decide) hgD)
    · rintro e W6 ⟨rfl, hR⟩
      go_wp2_with fail
      go_ret
      exact ⟨rfl, hR⟩
end Go.Proofs.YtjabgpejmnpamaaGreatDoor

namespace Go.Proofs.YtjabgpejmnpamaaGreatDoor
open Go.RowKit
set_option maxRecDepth 100000
structure Sct (B S : Nat) (w w' : World) : Prop where
  chg : Chg B [270] w w'
  off : ∀ g cs, g ≠ S → BoxAt w g cs 270 → BoxAt w' g cs 270
theorem Sct.trans {B S : Nat} {a b c : World} (h : Sct B S a b) (k : Sct B S b c) : Sct B S a c := ⟨h.chg.trans k.chg, fun g cs hg hb => k.off g cs hg (h.off g cs hg hb)⟩
theorem Sct.ext {B S : Nat} {a b : World} (e : Ext a b) (hB : B ≤ a.heap.size) : Sct B S a b := ⟨Chg.ext e hB, fun _ _ _ h => h.ext e⟩
theorem Sct.stored {B S : Nat} {a b c : World} {cs cells : Array Value} (h : Sct B S a b) (hx : BoxAt b S cs 270) (hs : Stored b c S cells 270) (hg : B ≤ S) : Sct B S a c :=
  ⟨h.chg.stored hx hs (by simp) hg, fun g cs hne hb => hs.keep (h.off g cs hne hb) hne⟩
theorem Sct.med {B B' S S' M' c : Nat} {A : Array Value} {a b : World} (h : Sct B S a b) (m : Med B' a M' S' c A) (hne : S' ≠ S) : Med B' b M' S' c A :=
  ⟨m.geM, m.geS, m.cap, m.med.chg h.chg (by decide), h.off _ _ hne m.sec, m.len⟩
theorem Med.store {B B' M S c : Nat} {A A' : Array Value} {a b d : World} (m : Med B a M S c A) (h : Chg B' [270] a b) (hs : Stored b d S A' 270) (hx : BoxAt b S A 270) (hl : 180 ≤ A'.size) : Med B d M S c A' :=
  ⟨m.geM, m.geS, m.cap, hs.keep (m.med.chg h (by decide)) (box_ne (m.med.chg h (by decide)) hx (by decide)), hs.box, hl⟩
theorem set_eq {A : Array Value} {i : Nat} {v : Value} (h : A[i]? = some v) : A.setIfInBounds i v = A := by
  obtain ⟨hlt, he⟩ := Array.getElem?_eq_some_iff.1 h
  refine Array.ext (by simp) (fun k h1 h2 => ?_)
  rw [Array.getElem_setIfInBounds h2]
  split
  · next hk => subst hk; exact he.symm
  · rfl
theorem Blank.put {A : Array Value} (h : Blank A) (q : Nat) (hq : q < 90) : Blank (putL A (q * 2) [.int .i64 0, .slice none 0 0]) := by
  simp only [putL]
  rw [Nat.mul_comm q 2, set_eq (h.even q hq), set_eq (h.odd q hq)]
  exact h
set_option maxHeartbeats 2000000 in
theorem merase_any (B M S c k : Nat) (A : Array Value) (hk : k < 5) (w : World) (h : Med B w M S c A) (hb : Blank A) (hB : B ≤ w.heap.size) :
    Calls Tryz.prog 165 #[.pointer (some ⟨M, 0, none⟩), .int .i64 k] w fun e w' => e = .returned (.int .i64 0) ∧ (∃ A', Blank A' ∧ Med B w' M S c A') ∧ Sct B S w w' := by
  have HA := Lib.hid hb
  have HM := Lib.hid h
  have c0 := h.med.cell 0 (v := .int .i64 60) rfl
  have c1 := h.med.cell 1 (v := .int .i64 5) rfl
  have c2 := h.med.cell 2 (v := .int .i64 2) rfl
  have c3 := h.med.cell 3 (v := .int .i64 3) rfl
  have c4 := h.med.cell 4 (v := .int .i64 1) rfl
  have hl := h.med.lt
  clear h hb
  go_enter Tryz.func165, Tryz.ntmps165
  go_wp2_with first | (go_at_call 209; refine (saddr_any k hk _).mono ?_; rintro e W1 ⟨rfl, hx1⟩; have HM1 := Lib.hid (HM.out.ext hx1); have HX1 := Lib.hid hx1; have d0 := HM1.out.med.cell 0 (v := .int .i64 60) rfl; have d1 := HM1.out.med.cell 1 (v := .int .i64 5) rfl; have d2 := HM1.out.med.cell 2 (v := .int .i64 2) rfl; have d3 := HM1.out.med.cell 3 (v := .int .i64 3) rfl; have d4 := HM1.out.med.cell 4 (v := .int .i64 1) rfl; have hl1 := HM1.out.med.lt; clear hx1 c0 c1 c2 c3 c4 hl) | (go_at_call 110; refine (sband_any _).mono ?_; rintro e W2 ⟨rfl, hx2⟩; have HM2 := Lib.hid (HM1.out.ext hx2); have HX2 := Lib.hid (HX1.out.trans hx2); clear hx2 d0 d1 d2 d3 d4 hl1)
  go_loopw [26] (fun it wr => ∃ j : Nat, j ≤ 6 ∧ it = .int .i64 j ∧ Hid (∃ A', Blank A' ∧ Med B wr M S c A') ∧ Hid (Sct B S w wr)) (fun it _ => 6 - (intOf it).toNat)
  case atStart => exact ⟨0, Nat.zero_le _, rfl, Lib.hid ⟨A, HA.out, HM2.out⟩, Lib.hid (Sct.ext HX2.out hB)⟩
  case round =>
    obtain ⟨j, hj, rfl, HL, HC⟩ := hrel
    obtain ⟨A', hbl, hm⟩ := HL.out
    have HBL := Lib.hid hbl
    have HMr := Lib.hid hm
    have e5 := hm.med.cell 5 (v := .slice (some ⟨S, 0, none⟩) 90 c) rfl
    have hlr := hm.med.lt
    have hsr := hm.sec.lt
    clear HL hbl hm
    by_cases hlt : j < 6
    · have hjI : (j : Int) < 6 := by omega
      have hq90 : 60 + 6 * k + j < 90 := by omega
      go_wp2_with (refine wpList_store_part 270 _ _ rfl (by rfl) (i := (60 + 6 * k + j) * 2) (cells := #[.int .i64 0, .slice none 0 0]) rfl rfl HMr.out.sec (by have := HMr.out.len; simp; omega) (by kernel_rfl) (by simp [Value.oneCell']) ?_; intro w3 hS; have HS := Lib.hid hS; clear hS)
      go_roundw
      case rel => exact ⟨j + 1, by omega, by go_num, Lib.hid ⟨_, HBL.out.put _ hq90, HMr.out.store (Chg.refl B _ _) HS.out HMr.out.sec (by rw [putL_size]; exact HMr.out.len)⟩, Lib.hid (HC.out.stored HMr.out.sec HS.out HMr.out.geS)⟩
      case measure => simp [intOf]; omega
    · have hj6 : j = 6 := by omega
      subst hj6
      go_wp2_with fail
      go_ret
      exact ⟨rfl, ⟨A', HBL.out, HMr.out⟩, HC.out⟩
end Go.Proofs.YtjabgpejmnpamaaGreatDoor

namespace Go.Proofs.YtjabgpejmnpamaaGreatDoor
open Go.RowKit
set_option maxRecDepth 100000
theorem putL_get_off : ∀ (vs : List Value) (A : Array Value) (o i : Nat), (i < o ∨ o + vs.length ≤ i) → (putL A o vs)[i]? = A[i]?
  | [], _, _, _, _ => rfl
  | v :: r, A, o, i, h => by
    rw [putL, putL_get_off r _ _ _ (by simp only [List.length_cons] at h; omega), Array.getElem?_setIfInBounds]
    rw [if_neg (by simp only [List.length_cons] at h; omega)]
theorem putL_get0 {A : Array Value} {o : Nat} {v : Value} {r : List Value} (h : o < A.size) : (putL A o (v :: r))[o]? = some v := by
  rw [putL, putL_get_off r _ _ _ (by omega), Array.getElem?_setIfInBounds]
  simp [h]
theorem putL_get1 {A : Array Value} {o : Nat} {u v : Value} (h : o + 1 < A.size) : (putL A o [u, v])[o + 1]? = some v := by
  rw [putL]
  exact putL_get0 (r := []) (by simpa using h)
set_option maxHeartbeats 1000000 in
theorem mhas_any (B M S c : Nat) (A : Array Value) (a : Nat) (ha : a < 90) (w : World) (h : Med B w M S c A) :
    Calls Tryz.prog 262 #[.pointer (some ⟨M, 0, none⟩), .int .i64 a] w fun e w' => e = .returned (.bool true) ∧ w = w' := by
  have c5 := h.med.cell 5 (v := .slice (some ⟨S, 0, none⟩) 90 c) rfl
  have hl := h.med.lt
  have haI : (a : Int) < 90 := by omega
  have haI0 : (0 : Int) ≤ (a : Int) := by omega
  clear h
  go_enter Tryz.func262, Tryz.ntmps262
  go_wp2
  go_ret
  exact ⟨rfl, rfl⟩
set_option maxHeartbeats 2000000 in
theorem mread_any (B bb M S c : Nat) (A : Array Value) (v : Value) (l : List (BitVec 8)) (hll : l.length ≤ 64) (w : World) (h : Med B w M S c A) (h0 : A[120]? = some (.int .i64 1)) (h1 : A[121]? = some v) (ho : OwnB w bb v l) :
    Calls Tryz.prog 252 #[.pointer (some ⟨M, 0, none⟩), .int .i64 60] w fun e w' => ∃ v', e = .returned (.tuple #[v', .int .i64 0]) ∧ OwnB w' w.heap.size v' l ∧ Ext w w' := by
  have HM := Lib.hid h
  have HO := Lib.hid ho
  have c5 := h.med.cell 5 (v := .slice (some ⟨S, 0, none⟩) 90 c) rfl
  have e0 := h.sec.cell 120 h0
  have e1 := h.sec.cell 121 h1
  have hl := h.med.lt
  have hls := h.sec.lt
  clear h ho h0 h1
  go_enter Tryz.func252, Tryz.ntmps252
  go_wp2_with first | (go_at_call 262; refine (mhas_any B M S c A 60 (by decide) _ HM.out).mono ?_; rintro e w' ⟨rfl, rfl⟩) | (go_at_call 122; refine (clone_any v l _ (by omega) (OwnB.slice HO.out)).mono ?_; rintro e W1 ⟨v', rfl, hO1, hx1⟩)
  go_ret2
  exact ⟨v', rfl, hO1, hx1⟩
set_option maxHeartbeats 4000000 in
theorem mwrite_any (B M S c : Nat) (A : Array Value) (v : Value) (l : List (BitVec 8)) (hll : l.length ≤ 64) (w : World) (h : Med B w M S c A) (ho : SliceAt encB w v l) (hB : B ≤ w.heap.size) :
    Calls Tryz.prog 251 #[.pointer (some ⟨M, 0, none⟩), .int .i64 60, v] w fun e w' => e = .returned (.int .i64 0) ∧ (∃ A' v', A'[120]? = some (.int .i64 1) ∧ A'[121]? = some v' ∧ Med B w' M S c A' ∧ OwnB w' w.heap.size v' l) ∧ Sct B S w w' := by
  have HM := Lib.hid h
  have HO := Lib.hid ho
  obtain ⟨va, vc, rfl⟩ := ho.shape
  have c5 := h.med.cell 5 (v := .slice (some ⟨S, 0, none⟩) 90 c) rfl
  have hl := h.med.lt
  have hls := h.sec.lt
  have hlI : (l.length : Int) ≤ 64 := by omega
  obtain ⟨n, hn⟩ : ∃ n, l.length = n := ⟨_, rfl⟩
  rw [hn] at hlI HO ⊢
  clear h ho
  go_enter Tryz.func251, Tryz.ntmps251
  go_wp2_with (go_at_call 262; refine (mhas_any B M S c A 60 (by decide) _ HM.out).mono ?_; rintro e w' ⟨rfl, rfl⟩)
  refine wp_region_ext [(0, true), (1, true), (2, true), (3, true), (4, true), (5, true), (6, false), (7, true), (8, true), (9, false)] (by kernel_rfl) (by kernel_rfl) ?_
  iterate 6 ((first
   | refine ext_move rfl rfl (by rfl) (by rfl) ?_
   | refine ext_assign rfl rfl (by rfl) (by rfl) ?_
   | refine ext_pick_t rfl rfl (by rfl) (by rfl) (by rfl) ?_
   | refine ext_pick_f rfl rfl (by rfl) (by rfl) (by rfl) ?_
   | (apply ext_take rfl (by rfl)
      · intro w' hS
        have hSc := hS.cells
        (try simp only [World.size_drew, World.cell?_drew] at hSc)
        go_simp
        (try simp (disch := omega) only [i64_id, u64_id, ↓IntWalk.iteOmega, Int.tdiv_eq_ediv_of_nonneg, Int.tmod_eq_emod_of_nonneg])
        try rfl)
   | refine ext_pass rfl (by rfl) ?_); simp only [Act.put, setZa, setZ0, setZ1])
  (refine ext_do rfl (by rfl) (fun K hK => ?_)
   go_simp
   go_at_call 122
   refine (clone_any (.slice va n vc) l _ (by omega) (HO.out.ext (by first | exact Ext.refl _ | exact Ext.drew _))).mono ?_
   rintro e W1 ⟨v', rfl, hO1, hx1⟩
   obtain ⟨a1, c1, rfl⟩ := own_shape hO1
   rw [hn] at hO1 ⊢
   have HX1 : Hid (Ext w W1) := Ext.trans (by first | exact Ext.refl _ | exact Ext.drew _) hx1
   have HO1 := Lib.hid hO1
   refine hK _ _ (by first | exact hx1 | exact HX1.out) ?_
   clear hK K hx1 hO1
   (try simp only [Act.put, setZa, setZ0, setZ1]))
  iterate 2 ((first
   | refine ext_move rfl rfl (by rfl) (by rfl) ?_
   | refine ext_assign rfl rfl (by rfl) (by rfl) ?_
   | refine ext_pick_t rfl rfl (by rfl) (by rfl) (by rfl) ?_
   | refine ext_pick_f rfl rfl (by rfl) (by rfl) (by rfl) ?_
   | (apply ext_take rfl (by rfl)
      · intro w' hS
        have hSc := hS.cells
        (try simp only [World.size_drew, World.cell?_drew] at hSc)
        go_simp
        (try simp (disch := omega) only [i64_id, u64_id, ↓IntWalk.iteOmega, Int.tdiv_eq_ediv_of_nonneg, Int.tmod_eq_emod_of_nonneg])
        try rfl)
   | refine ext_pass rfl (by rfl) ?_); simp only [Act.put, setZa, setZ0, setZ1])
  (refine ext_last rfl (by rfl) (by kernel_rfl) (fun K hK => ?_)
   refine wp_of_list rfl ?_
   refine wpList_store_part 270 _ _ rfl (by rfl) (i := 120) (cells := #[.int .i64 1, .slice a1 n c1]) rfl rfl (HM.out.ext HX1.out).sec (by have := HM.out.len; simp; omega) (by kernel_rfl) (by simp [Value.oneCell']) ?_
   intro W2 hS
   have HS2 := Lib.hid hS
   refine hK _ _ ?_
   clear hK K hS
   (try simp only [Act.put]))
  have hx1 := HX1.out
  have HM1 := Lib.hid (HM.out.ext HX1.out)
  have HC2 : Hid (Sct B S w W2) := Lib.hid ((Sct.ext HX1.out hB).stored HM1.out.sec HS2.out HM1.out.geS)
  have HM2 := Lib.hid (HM1.out.store (Chg.refl B _ _) HS2.out HM1.out.sec (by rw [putL_size]; exact HM1.out.len))
  have HO2 := Lib.hid (ownsRow_chg ((Chg.refl B [270] W1).stored HM1.out.sec HS2.out (by simp) HM1.out.geS) HO1.out (by decide))
  have d0 := HM2.out.med.cell 0 (v := .int .i64 60) rfl
  have d1 := HM2.out.med.cell 1 (v := .int .i64 5) rfl
  have d2 := HM2.out.med.cell 2 (v := .int .i64 2) rfl
  have d3 := HM2.out.med.cell 3 (v := .int .i64 3) rfl
  have d4 := HM2.out.med.cell 4 (v := .int .i64 1) rfl
  have hl2 := HM2.out.med.lt
  clear hx1 c5 hl hls
  go_wp2_with (go_at_call 263; refine (sshadow_any _).mono ?_; rintro e W3 ⟨sv, rfl, hsv, hx3⟩; obtain ⟨sa, sc, rfl⟩ := hsv.shape; obtain ⟨sb, so, rfl, hsl, hsc⟩ := hsv.get 0 (by decide); have hsc0 : W3.cell? ⟨sb, so, none⟩ = some (.int .i64 63) := hsc; have HX3 := Lib.hid hx3; have HM3 := Lib.hid (HM2.out.ext hx3); have e5 := HM3.out.med.cell 5 (v := .slice (some ⟨S, 0, none⟩) 90 c) rfl; have hl3 := HM3.out.med.lt; clear hx3 hsv hsc d0 d1 d2 d3 d4 hl2)
  refine wp_loop_rounds 2 ?_
  rw [rounds_succ]
  go_wp2_with (refine wpList_store_part 270 _ _ rfl (by rfl) (i := 126) (cells := #[.int .i64 2, .slice none 0 0]) rfl rfl HM3.out.sec (by rw [putL_size]; have := HM.out.len; simp; omega) (by kernel_rfl) (by simp [Value.oneCell']) ?_; intro W4 hS; have HS4 := Lib.hid hS; clear hS)
  rw [rounds_succ]
  go_wp2_with fail
  go_ret
  have hlen := HM.out.len
  refine ⟨rfl, ⟨_, _, ?_, ?_, HM3.out.store (Chg.refl B _ _) HS4.out HM3.out.sec (by rw [putL_size, putL_size]; exact hlen), ownsRow_chg ((Chg.refl B [270] W3).stored HM3.out.sec HS4.out (by simp) HM3.out.geS) (ownsRow_chg (Chg.ext (T := [270]) HX3.out (Nat.zero_le _)) HO2.out (by decide)) (by decide)⟩, ?_⟩
  · rw [putL_get_off _ _ _ _ (.inl (by decide))]; exact putL_get0 (by omega)
  · rw [putL_get_off _ _ _ _ (.inl (by decide))]; exact putL_get1 (by omega)
  · have hBW2 : B ≤ W2.heap.size := Nat.le_trans hB HC2.out.chg.size
    exact (HC2.out.trans (Sct.ext HX3.out hBW2)).stored HM3.out.sec HS4.out HM3.out.geS
end Go.Proofs.YtjabgpejmnpamaaGreatDoor
