/-
  Part 4 of the proof: Package decode: Decode of five pieces, the first two of which are bad. A drawn region within a round of a range over a function, walked as ou Package parity: Encode of two blocks; package slices: Backward over bl A range over a function whose iterator says of each element what it re Package slices: Clone of ints; package design: count, sets.
-/
import Derived.Test.YtjabgpejmnpamaaGreatDoorZ03
import Derived.Deep.DeepCutAuto
import Derived.Test.YtjabgpejmnpamaaGreatDoorZ02
import Derived.RangeFuncNested
import Derived.RangeFuncBound
import Derived.RangeFuncCalls
import Derived.RangeFuncLeaves
import Derived.RangeFuncBox
import Derived.OrdersIn
import Derived.TacticsInMore
import Derived.Shelf.Abstract
import Derived.WalkKit
import Derived.OwnWalkIn
import Derived.LoopNIn
import Derived.LoopIn
set_option linter.unusedVariables false
namespace Go.Proofs.YtjabgpejmnpamaaGreatDoor
open Go.RowKit
set_option maxRecDepth 100000
attribute [local go_sem] wrapI_ub wrap8_ub unsigned8 xor_ub
abbrev litI (i : Int) : Obj := .cells #[encI i] 3
abbrev litB (p : List (BitVec 8)) : Obj := .cells (p.map encB).toArray 76
structure S2 (w W : World) (vf : Value) (F : List Int) (vb : Value) (L : List (List (BitVec 8))) : Prop where
  own : OwnG encI 3 W w.heap.size vf F
  bk : OwnBk W w.heap.size vb L
  ext : Ext w W
variable {w W : World} {vf vb : Value} {F : List Int} {L : List (List (BitVec 8))}
theorem S2.le (h : S2 w W vf F vb L) : w.heap.size ≤ W.heap.size := h.ext.size
theorem S2.alloc (h : S2 w W vf F vb L) (o : Obj) : S2 w (W.alloc o) vf F vb L := ⟨h.own.ext (Ext.alloc _ _), h.bk.ext (Ext.alloc _ _), h.ext.trans (Ext.alloc _ _)⟩
theorem S2.more {W' : World} (h : S2 w W vf F vb L) (e : Ext W W') : S2 w W' vf F vb L := ⟨h.own.ext e, h.bk.ext e, h.ext.trans e⟩
theorem S2.newI (h : S2 w W vf F vb L) (i : Int) : BoxAt (W.alloc (.cells #[encI i] 3)) W.heap.size #[encI i] 3 := BoxAt.new _ _ _
theorem S2.newB (h : S2 w W vf F vb L) (p : List (BitVec 8)) : BoxAt (W.alloc (.cells (p.map encB).toArray 76)) W.heap.size (p.map encB).toArray 76 := BoxAt.new _ _ _
theorem bk_not_box {g : Nat} {cs : Array Value} {t : TypeId} (h : OwnBk W w.heap.size vb L) (hb : BoxAt W g cs t) (ht : t ≠ 76) : vb.ownBlock ≠ some g := by
  intro hg
  rcases h.2 with ⟨h1, _⟩ | ⟨q, cap, cur, h1, _, h3, _⟩
  · rw [h1] at hg; simp [Value.ownBlock] at hg
  · rw [h1] at hg
    simp [Value.ownBlock] at hg
    subst hg
    rw [show W.heap[q]? = _ from hb] at h3
    injection h3 with h3
    injection h3 with _ h3
    exact ht h3
theorem S2.apart (h : S2 w W vf F vb L) : vf.ownBlock ≠ vb.ownBlock ∨ vf.ownBlock = none := by
  cases hv : vf.ownBlock with
  | none => exact .inr rfl
  | some g =>
    refine .inl (fun he => ?_)
    rcases h.own.2 with ⟨h1, _⟩ | ⟨q, cap, cur, h1, _, h3, _⟩
    · rw [h1] at hv; simp [Value.ownBlock] at hv
    · rw [h1] at hv
      simp [Value.ownBlock] at hv
      subst hv
      have hq : W.heap[q]? = some (.cells cur 3 (0, 0)) := h3
      exact bk_not_box h.bk (t := 3) hq (by decide) he.symm
theorem apart_sym {a b : Option Nat} (h : a ≠ b ∨ a = none) : b = none ∨ b ≠ a := by
  cases b with
  | none => exact .inl rfl
  | some g =>
    rcases h with h | h
    · exact .inr h.symm
    · exact .inr (by rw [h]; simp)
theorem apart_two {a b : Option Nat} (h : a ≠ b ∨ a = none) : a = none ∨ a ≠ b := h.symm
theorem S2.appI {v' : Value} {w' : World} {i : Int} (h : S2 w W vf F vb L) (ho : w'.ownsRow w.heap.size 3 1 v' (F.length + 1) (F.map encI ++ [encI i])) (hg : W.grownBy w' vf.ownBlock) : S2 w w' v' (F ++ [i]) vb L :=
  ⟨OwnG.snoc (enc := encI) (x := i) ho, World.ownsRow.kept h.bk hg (apart_sym h.apart), h.ext.grown hg h.le (fun q hq => (h.own.lt q hq).1)⟩
theorem S2.appB {v' : Value} {w' : World} {l : List (BitVec 8)} (h : S2 w W vf F vb L) (ho : w'.ownsRow w.heap.size 76 8 v' (L.length + 1) (L.flatMap bkCells ++ bkCells l)) (hg : W.grownBy w' vb.ownBlock) : S2 w w' vf F v' (L ++ [l]) :=
  ⟨World.ownsRow.kept h.own hg (apart_two h.apart), OwnBk.snoc ho, h.ext.grown hg h.le (fun q hq => (h.bk.lt q hq).1)⟩
theorem bk_row {w : World} {B : Nat} {v : Value} {ls : List (List (BitVec 8))} (h : OwnBk w B v ls) : w.ownsRow B 76 8 v ls.length (ls.flatMap bkCells) := h
theorem box_news {g : Nat} {l : List (BitVec 8)} (hl : l.length = 8) (h : BoxAt W g (l.map encB).toArray 76) : ∀ j u, (bkCells l)[j]? = some u → W.cell? ((⟨g, 0, none⟩ : Addr).add j) = some u := by
  intro j u hu
  rw [add_plain, Nat.zero_add]
  rw [bkCells_eq hl] at hu
  exact h.cell j (by simpa using hu)
theorem build_arr {P : List (BitVec 8)} (h : P.length = 8) (w' : World) : (Instr.buildSlice 111 1 #[(0, arrV P)]).run Tryz.prog w' = .ok (.slice (some ⟨w'.heap.size, 0, none⟩) 1 1) (w'.alloc (litB P)) := by
  obtain ⟨x0, x1, x2, x3, x4, x5, x6, x7, rfl⟩ := arr_cases h
  go_simp
  try rfl
theorem wp_build {o : Oper} {a : Act} {w w' : World} {K : Act → World → Prop} {Q : Exit → Act → World → Prop} (ty : TypeId) (n : Nat) (x : Operand) (ho : o.op = .buildSlice ty n #[(0, x)]) {v p : Value} (hx : a.eval x = p)
    (h : (Instr.buildSlice ty n #[(0, p)]).run Tryz.prog w = .ok v w') (k : K (a.put o.dst v) w') : o.wp Tryz.prog a w K Q := by
  unfold Oper.wp execOp
  simp only [ho, List.map_toArray, List.map_cons, List.map_nil, hx, Sem.run_bind, Sem.run_pure, Result.andThen_ok, h]
  exact k
theorem wpList_store_arrO {ops : Array Oper} {rest : List Oper} {o : Oper} {a : Act} {w w0 : World} {Q : Exit → Act → World → Prop} (x y : Operand) (ho : o.op = .store 76 x y)
    (hw : Region.wanted o (yielded ops a.tmps) = true) {g f : Nat} {cs : Array Value} {t : TypeId} {l : List (BitVec 8)} (hx : a.eval x = .pointer (some ⟨g, f, none⟩)) (hy : a.eval y = arrV l) (hb : BoxAt w g cs t) (hl : l.length = 8) (hf : f + 8 ≤ cs.size)
    (he : Ext w0 w) (hg : w0.heap.size ≤ g)
    (h : ∀ w' cs', Ext w0 w' → BoxAt w' g cs' t → cs'.size = cs.size → (∀ j, j < 8 → cs'[f + j]? = some (encB (l.getD j 0#8))) → w'.heap.size = w.heap.size → wpList Tryz.prog ops Q rest (a.put o.dst undef) w') : wpList Tryz.prog ops Q (o :: rest) a w := by
  refine wpList_step fun K hK => ?_
  rw [if_pos hw]
  have hs : ((l.map encB).toArray).size = 8 := by simp [hl]
  have hrun := run_storeAt_mid (P := Tryz.prog) w g f 76 (l.map encB).toArray (fun j hj => ⟨by
    obtain ⟨v, hv⟩ : ∃ v, cs[f + j]? = some v := ⟨_, Array.getElem?_eq_getElem (by omega)⟩
    rw [hb.cell _ hv]; rfl, hb.free _⟩) (by rw [hs]; kernel_rfl) (by simp [Value.oneCell'])
  obtain ⟨cs', h1, h2, h3, h5, h4⟩ := arrc_box (l.map encB) f w cs hb (by simp [hl]; omega)
  unfold Oper.wp execOp
  simp only [ho, hx, hy, Sem.run_bind, Sem.run_pure, Result.andThen_ok, hrun]
  refine hK _ _ (h _ cs' (arrc_ext hg _ _ _ he) h1 h2 (fun j hj => ?_) (arrc_size _ _ _))
  rw [h4 j (by simp [hl]; exact hj), List.getElem?_map, List.getElem?_eq_getElem (by omega), getD_in (by omega)]
  rfl
theorem wts0 : wtsL 0 = [(wtsL 0).getD 0 0#8, (wtsL 0).getD 1 0#8] := by decide +kernel
theorem wts1 : wtsL 1 = [(wtsL 1).getD 0 0#8, (wtsL 1).getD 1 0#8] := by decide +kernel
theorem comb_len {p q : BitVec 8} {A B : List (BitVec 8)} (hA : A.length = 8) (hB : B.length = 8) : (combL p q A B).length = 8 := by
  unfold combL
  have h1 : (fusedG zero8 A p).length = 8 := by rw [fusedG_length _ _ _ (by rw [hA]; rfl)]; rfl
  rw [fusedG_length _ _ _ (by omega)]; exact h1
def fromL (k : Nat) : List Int := if k ≤ 2 then [] else if k = 3 then [2] else [2, 3]
def blkL (P0 P1 : List (BitVec 8)) (k : Nat) : List (List (BitVec 8)) := if k ≤ 2 then [] else if k = 3 then [P0] else [P0, P1]
set_option maxHeartbeats 8000000 in
theorem decode_any (vp vd : Value) (D0 D1 P0 P1 P2 : List (BitVec 8)) (w : World) (hp : BlksAt w vp [D0, D1, P0, P1, P2]) (hd : SliceAt Value.bool w vd [true, true, false, false, false]) :
    Calls Tryz.prog 50 #[vp, vd] w fun e w' => ∃ g c, e = .returned (.tuple #[.slice (some ⟨g, 0, none⟩) 5 c, .int .i64 0]) ∧ g < w'.heap.size ∧
      (∀ j, j < 8 → w'.cell? ⟨g, 8 + j, none⟩ = some (encB ((combL ((wtsL 1).getD 0 0#8) ((wtsL 1).getD 1 0#8) P0 P1).getD j 0#8))) ∧ Ext w w' := by
  obtain ⟨i0, hi, hi0, hi1, hi2⟩ := info_parts infoN
  obtain ⟨k0, hk, hk0, hk1, hk2⟩ := info_parts infoK
  obtain ⟨pb, po, pc, rfl, hpc, hpl, hpe⟩ := id hp
  have hP0 : P0.length = 8 := (hpe 2 (by simp)).1
  have hP1 : P1.length = 8 := (hpe 3 (by simp)).1
  obtain ⟨da, dc, rfl⟩ := hd.shape
  obtain ⟨db, dO, rfl, hdl, hd0⟩ := hd.get 0 (by simp)
  obtain ⟨_, _, he, _, hd1⟩ := hd.get 1 (by simp)
  injection he with he
  injection he with he1 he2
  subst he1 he2
  obtain ⟨_, _, he, _, hd2⟩ := hd.get 2 (by simp)
  injection he with he
  injection he with he1 he2
  subst he1 he2
  obtain ⟨_, _, he, _, hd3⟩ := hd.get 3 (by simp)
  injection he with he
  injection he with he1 he2
  subst he1 he2
  obtain ⟨_, _, he, _, hd4⟩ := hd.get 4 (by simp)
  injection he with he
  injection he with he1 he2
  subst he1 he2
  simp only [List.getElem_cons_zero, List.getElem_cons_succ, Nat.add_zero, List.length_cons, List.length_nil, Nat.reduceAdd] at hd0 hd1 hd2 hd3 hd4 hp hpc ⊢
  have HPB := Lib.hid hp
  have HP0 := Lib.hid hP0
  have HP1 := Lib.hid hP1
  clear hd hp hpe hP0 hP1
  go_enter Tryz.func50, Tryz.ntmps50
  go_wp2_with (go_at_call 96; refine (possible_any 5 (by decide) (by decide) _).mono ?_; rintro e w' ⟨rfl, rfl⟩)
  have HS0 : Hid (S2 w w (.slice none 0 0) (fromL 0) (.slice none 0 0) (blkL P0 P1 0)) := ⟨OwnG.nil, OwnBk.nil _ _, Ext.refl _⟩
  go_loopw [7, 8, 29] (fun f b it wr => ∃ k : Nat, k ≤ 5 ∧ it = .int .i64 k ∧ Hid (S2 w wr f (fromL k) b (blkL P0 P1 k))) (fun _ _ it _ => 5 - (intOf it).toNat)
  case atStart => exact ⟨0, by omega, rfl, HS0⟩
  case round =>
    obtain ⟨k, hk5, rfl, HSH⟩ := hrel
    rcases (by omega : k = 0 ∨ k = 1 ∨ k = 2 ∨ k = 3 ∨ k = 4 ∨ k = 5) with rfl | rfl | rfl | rfl | rfl | rfl
    · have hcd := (Below.cell HSH.out.ext (p := ⟨db, dO, none⟩) hdl).trans hd0
      have hdl2 := Nat.lt_of_lt_of_le hdl HSH.out.ext.size
      go_wp2_with fail
      go_roundw
      case rel => exact ⟨1, by omega, by go_num, HSH⟩
      case measure => simp [intOf]
    · have hcd := (Below.cell HSH.out.ext (p := ⟨db, dO + 1, none⟩) hdl).trans hd1
      have hdl2 := Nat.lt_of_lt_of_le hdl HSH.out.ext.size
      go_wp2_with fail
      go_roundw
      case rel => exact ⟨2, by omega, by go_num, HSH⟩
      case measure => simp [intOf]
    · -- round 2
      have HS := HSH.out
      obtain ⟨af, cf, rfl⟩ := HS.own.shape
      obtain ⟨ab, cb, rfl⟩ := HS.bk.shape
      simp only [fromL, blkL, Nat.reduceLeDiff, ↓reduceIte, List.length_nil] at HS ⊢
      have hld : ∀ w', Ext w w' → (Instr.loadAt 76 (.pointer (some ⟨pb, po + 16, none⟩))).run Tryz.prog w' = .ok (arrV P0) w' := fun w' e => by
        have h := (HPB.out.ext e).load 2 (by simp)
        exact h
      have hcd := (Below.cell HS.ext (p := ⟨db, dO + 2, none⟩) hdl).trans hd2
      have hpl2 := Nat.lt_of_lt_of_le hpl HS.ext.size
      have hdl2 := Nat.lt_of_lt_of_le hdl HS.ext.size
      go_wp2_with fail
      refine wp_region_seT w HS.ext (.take 0 (.take 1 (.take 4 (.take 5 (.take 6 (.take 7 (.take 8 (.two 2 9 (.two 3 9 (.one 9 (.one 10 (.take 11 (.take 12 .done)))) (.one 3 (.one 10 (.take 11 (.take 12 .done))))) (.one 2 (.one 3 (.one 10 (.take 11 (.take 12 .done))))))))))))) (by kernel_rfl) (by kernel_rfl) (fun wc hxc => ?_)
      have HS := HS.more hxc
      iterate 6 ((first
       | refine extT_move rfl rfl (by rfl) (by rfl) ?_
       | refine extT_assign rfl rfl (by rfl) (by rfl) ?_
       | refine extT_pick_t rfl rfl (by rfl) (by rfl) (by rfl) ?_
       | refine extT_pick_f rfl rfl (by rfl) (by rfl) (by rfl) ?_
       | (apply extT_take rfl (by rfl)
          · intro w' hS
            have hSc := hS.cells
            (try simp only [World.size_drew, World.cell?_drew] at hSc)
            go_simp
            (try simp (disch := omega) only [i64_id, u64_id, ↓IntWalk.iteOmega, Int.tdiv_eq_ediv_of_nonneg, Int.tmod_eq_emod_of_nonneg])
            try rfl)
       | refine extT_pass rfl (by rfl) ?_); simp only [Act.put, setZa, setZ0, setZ1])
      (refine extT_load 76 rfl rfl (by rfl) (by rfl) hld ?_; simp only [Act.put, setZa, setZ0, setZ1])
      refine extT_twoB rfl rfl (by rfl) (by rfl) (fun K hK => ?_) (fun K hK => ?_)
      go_simp
      refine hK _ _ (HS.alloc _).ext ?_
      clear hK K
      (try simp only [Act.put, setZa, setZ0, setZ1])
      have HI := HS.newI 2
      (try simp only [World.size_alloc] at HI)
      skip
      have HS := HS.alloc (.cells #[encI 2] 3)
      refine extT_twoB rfl rfl (by rfl) (by rfl) (fun K hK => ?_) (fun K hK => ?_)
      skip
      refine wp_of_list rfl ?_
      refine wpList_append_one rfl _ _ _ rfl w.heap.size 3 i0 (.int .i64 0) 8 Tryz.underlying40 hi hi0 hi1 hi2 rfl _ _ _ rfl HS.own _ (encI 2) rfl rfl (HI.cell 0 rfl) (by unfold maxLen; simp) (by simp) HS.le ?_
      intro v6 w6 ho6 hg6 _
      skip
      have HS := HS.appI ho6 hg6
      clear ho6 hg6 HI
      refine hK _ _ HS.ext ?_
      clear hK K
      (try simp only [Act.put, setZa, setZ0, setZ1])
      refine extT_doB rfl (by rfl) (fun K hK => ?_)
      refine wp_build 111 1 _ rfl rfl (build_arr HP0.out _) ?_
      refine hK _ _ (HS.alloc _).ext ?_
      clear hK K
      (try simp only [Act.put, setZa, setZ0, setZ1])
      have HB := HS.newB P0
      skip
      have HS := HS.alloc (.cells (P0.map encB).toArray 76)
      refine extT_doB rfl (by rfl) (fun K hK => ?_)
      skip
      refine wp_of_list rfl ?_
      refine wpList_append_own_at _ rfl _ _ _ rfl w.heap.size 76 k0 _ 8 8 Tryz.underlying111 hk hk0 hk1 hk2 rfl (by decide) _ _ _ rfl (bk_row HS.bk) _ 1 1 (bkCells P0) rfl (bkCells_len _) (box_news HP0.out HB) (bk_one _) (by unfold maxLen; simp) (by simp) HS.le ?_
      intro v7 w7 ho7 hg7 _ _
      skip
      have HS := HS.appB ho7 hg7
      clear ho7 hg7 HB
      refine hK _ _ HS.ext ?_
      clear hK K
      (try simp only [Act.put, setZa, setZ0, setZ1])
      iterate 2 ((first
       | refine extT_move rfl rfl (by rfl) (by rfl) ?_
       | refine extT_assign rfl rfl (by rfl) (by rfl) ?_
       | refine extT_pick_t rfl rfl (by rfl) (by rfl) (by rfl) ?_
       | refine extT_pick_f rfl rfl (by rfl) (by rfl) (by rfl) ?_
       | (apply extT_take rfl (by rfl)
          · intro w' hS
            have hSc := hS.cells
            (try simp only [World.size_drew, World.cell?_drew] at hSc)
            go_simp
            (try simp (disch := omega) only [i64_id, u64_id, ↓IntWalk.iteOmega, Int.tdiv_eq_ediv_of_nonneg, Int.tmod_eq_emod_of_nonneg])
            try rfl)
       | refine extT_pass rfl (by rfl) ?_); simp only [Act.put, setZa, setZ0, setZ1])
      refine extT_nil ?_
      skip
      rotate_left
      refine wp_build 111 1 _ rfl rfl (build_arr HP0.out _) ?_
      refine hK _ _ (HS.alloc _).ext ?_
      clear hK K
      (try simp only [Act.put, setZa, setZ0, setZ1])
      have HB := HS.newB P0
      have HI := HI.ext (Ext.alloc _ (litB P0))
      have HS := HS.alloc (.cells (P0.map encB).toArray 76)
      refine extT_doB rfl (by rfl) (fun K hK => ?_)
      skip
      refine wp_of_list rfl ?_
      refine wpList_append_one rfl _ _ _ rfl w.heap.size 3 i0 (.int .i64 0) 8 Tryz.underlying40 hi hi0 hi1 hi2 rfl _ _ _ rfl HS.own _ (encI 2) rfl rfl (HI.cell 0 rfl) (by unfold maxLen; simp) (by simp) HS.le ?_
      intro v6 w6 ho6 hg6 _
      have HB := HB.grown hg6 (fun h => HS.own.not_box HB (by decide) h.symm)
      have HS := HS.appI ho6 hg6
      clear ho6 hg6 HI
      refine hK _ _ HS.ext ?_
      clear hK K
      (try simp only [Act.put, setZa, setZ0, setZ1])
      refine extT_doB rfl (by rfl) (fun K hK => ?_)
      skip
      refine wp_of_list rfl ?_
      refine wpList_append_own_at _ rfl _ _ _ rfl w.heap.size 76 k0 _ 8 8 Tryz.underlying111 hk hk0 hk1 hk2 rfl (by decide) _ _ _ rfl (bk_row HS.bk) _ 1 1 (bkCells P0) rfl (bkCells_len _) (box_news HP0.out HB) (bk_one _) (by unfold maxLen; simp) (by simp) HS.le ?_
      intro v7 w7 ho7 hg7 _ _
      skip
      have HS := HS.appB ho7 hg7
      clear ho7 hg7 HB
      refine hK _ _ HS.ext ?_
      clear hK K
      (try simp only [Act.put, setZa, setZ0, setZ1])
      iterate 2 ((first
       | refine extT_move rfl rfl (by rfl) (by rfl) ?_
       | refine extT_assign rfl rfl (by rfl) (by rfl) ?_
       | refine extT_pick_t rfl rfl (by rfl) (by rfl) (by rfl) ?_
       | refine extT_pick_f rfl rfl (by rfl) (by rfl) (by rfl) ?_
       | (apply extT_take rfl (by rfl)
          · intro w' hS
            have hSc := hS.cells
            (try simp only [World.size_drew, World.cell?_drew] at hSc)
            go_simp
            (try simp (disch := omega) only [i64_id, u64_id, ↓IntWalk.iteOmega, Int.tdiv_eq_ediv_of_nonneg, Int.tmod_eq_emod_of_nonneg])
            try rfl)
       | refine extT_pass rfl (by rfl) ?_); simp only [Act.put, setZa, setZ0, setZ1])
      refine extT_nil ?_
      skip
      rotate_left
      refine wp_build 111 1 _ rfl rfl (build_arr HP0.out _) ?_
      refine hK _ _ (HS.alloc _).ext ?_
      clear hK K
      (try simp only [Act.put, setZa, setZ0, setZ1])
      have HB := HS.newB P0
      skip
      have HS := HS.alloc (.cells (P0.map encB).toArray 76)
      refine extT_doB rfl (by rfl) (fun K hK => ?_)
      go_simp
      refine hK _ _ (HS.alloc _).ext ?_
      clear hK K
      (try simp only [Act.put, setZa, setZ0, setZ1])
      have HI := HS.newI 2
      (try simp only [World.size_alloc] at HI)
      have HB := HB.ext (Ext.alloc _ (litI 2))
      have HS := HS.alloc (.cells #[encI 2] 3)
      refine extT_doB rfl (by rfl) (fun K hK => ?_)
      skip
      refine wp_of_list rfl ?_
      refine wpList_append_one rfl _ _ _ rfl w.heap.size 3 i0 (.int .i64 0) 8 Tryz.underlying40 hi hi0 hi1 hi2 rfl _ _ _ rfl HS.own _ (encI 2) rfl rfl (HI.cell 0 rfl) (by unfold maxLen; simp) (by simp) HS.le ?_
      intro v6 w6 ho6 hg6 _
      have HB := HB.grown hg6 (fun h => HS.own.not_box HB (by decide) h.symm)
      have HS := HS.appI ho6 hg6
      clear ho6 hg6 HI
      refine hK _ _ HS.ext ?_
      clear hK K
      (try simp only [Act.put, setZa, setZ0, setZ1])
      refine extT_doB rfl (by rfl) (fun K hK => ?_)
      skip
      refine wp_of_list rfl ?_
      refine wpList_append_own_at _ rfl _ _ _ rfl w.heap.size 76 k0 _ 8 8 Tryz.underlying111 hk hk0 hk1 hk2 rfl (by decide) _ _ _ rfl (bk_row HS.bk) _ 1 1 (bkCells P0) rfl (bkCells_len _) (box_news HP0.out HB) (bk_one _) (by unfold maxLen; simp) (by simp) HS.le ?_
      intro v7 w7 ho7 hg7 _ _
      skip
      have HS := HS.appB ho7 hg7
      clear ho7 hg7 HB
      refine hK _ _ HS.ext ?_
      clear hK K
      (try simp only [Act.put, setZa, setZ0, setZ1])
      iterate 2 ((first
       | refine extT_move rfl rfl (by rfl) (by rfl) ?_
       | refine extT_assign rfl rfl (by rfl) (by rfl) ?_
       | refine extT_pick_t rfl rfl (by rfl) (by rfl) (by rfl) ?_
       | refine extT_pick_f rfl rfl (by rfl) (by rfl) (by rfl) ?_
       | (apply extT_take rfl (by rfl)
          · intro w' hS
            have hSc := hS.cells
            (try simp only [World.size_drew, World.cell?_drew] at hSc)
            go_simp
            (try simp (disch := omega) only [i64_id, u64_id, ↓IntWalk.iteOmega, Int.tdiv_eq_ediv_of_nonneg, Int.tmod_eq_emod_of_nonneg])
            try rfl)
       | refine extT_pass rfl (by rfl) ?_); simp only [Act.put, setZa, setZ0, setZ1])
      refine extT_nil ?_
      skip
      rotate_left
      all_goals
        obtain ⟨a7, c7, rfl⟩ := HS.own.shape
        obtain ⟨a8, c8, rfl⟩ := HS.bk.shape
        have HSN := Lib.hid HS
        clear HS hld hcd hpl2 hdl2
        go_wp2_with fail
        go_roundw
        case rel => exact ⟨3, by omega, by go_num, HSN⟩
        case measure => simp [intOf]
    · -- round 3
      have HS := HSH.out
      obtain ⟨af, cf, rfl⟩ := HS.own.shape
      obtain ⟨ab, cb, rfl⟩ := HS.bk.shape
      simp only [fromL, blkL, Nat.reduceLeDiff, ↓reduceIte, List.length_nil, List.length_cons, Nat.reduceAdd] at HS ⊢
      have hld : ∀ w', Ext w w' → (Instr.loadAt 76 (.pointer (some ⟨pb, po + 24, none⟩))).run Tryz.prog w' = .ok (arrV P1) w' := fun w' e => by
        have h := (HPB.out.ext e).load 3 (by simp)
        exact h
      have hcd := (Below.cell HS.ext (p := ⟨db, dO + 3, none⟩) hdl).trans hd3
      have hpl2 := Nat.lt_of_lt_of_le hpl HS.ext.size
      have hdl2 := Nat.lt_of_lt_of_le hdl HS.ext.size
      go_wp2_with fail
      refine wp_region_seT w HS.ext (.take 0 (.take 1 (.take 4 (.take 5 (.take 6 (.take 7 (.take 8 (.two 2 9 (.two 3 9 (.one 9 (.one 10 (.take 11 (.take 12 .done)))) (.one 3 (.one 10 (.take 11 (.take 12 .done))))) (.one 2 (.one 3 (.one 10 (.take 11 (.take 12 .done))))))))))))) (by kernel_rfl) (by kernel_rfl) (fun wc hxc => ?_)
      have HS := HS.more hxc
      iterate 6 ((first
       | refine extT_move rfl rfl (by rfl) (by rfl) ?_
       | refine extT_assign rfl rfl (by rfl) (by rfl) ?_
       | refine extT_pick_t rfl rfl (by rfl) (by rfl) (by rfl) ?_
       | refine extT_pick_f rfl rfl (by rfl) (by rfl) (by rfl) ?_
       | (apply extT_take rfl (by rfl)
          · intro w' hS
            have hSc := hS.cells
            (try simp only [World.size_drew, World.cell?_drew] at hSc)
            go_simp
            (try simp (disch := omega) only [i64_id, u64_id, ↓IntWalk.iteOmega, Int.tdiv_eq_ediv_of_nonneg, Int.tmod_eq_emod_of_nonneg])
            try rfl)
       | refine extT_pass rfl (by rfl) ?_); simp only [Act.put, setZa, setZ0, setZ1])
      (refine extT_load 76 rfl rfl (by rfl) (by rfl) hld ?_; simp only [Act.put, setZa, setZ0, setZ1])
      refine extT_twoB rfl rfl (by rfl) (by rfl) (fun K hK => ?_) (fun K hK => ?_)
      go_simp
      refine hK _ _ (HS.alloc _).ext ?_
      clear hK K
      (try simp only [Act.put, setZa, setZ0, setZ1])
      have HI := HS.newI 3
      (try simp only [World.size_alloc] at HI)
      skip
      have HS := HS.alloc (.cells #[encI 3] 3)
      refine extT_twoB rfl rfl (by rfl) (by rfl) (fun K hK => ?_) (fun K hK => ?_)
      skip
      refine wp_of_list rfl ?_
      refine wpList_append_one rfl _ _ _ rfl w.heap.size 3 i0 (.int .i64 0) 8 Tryz.underlying40 hi hi0 hi1 hi2 rfl _ _ _ rfl HS.own _ (encI 3) rfl rfl (HI.cell 0 rfl) (by unfold maxLen; simp) (by simp) HS.le ?_
      intro v6 w6 ho6 hg6 _
      skip
      have HS := HS.appI ho6 hg6
      clear ho6 hg6 HI
      refine hK _ _ HS.ext ?_
      clear hK K
      (try simp only [Act.put, setZa, setZ0, setZ1])
      refine extT_doB rfl (by rfl) (fun K hK => ?_)
      refine wp_build 111 1 _ rfl rfl (build_arr HP1.out _) ?_
      refine hK _ _ (HS.alloc _).ext ?_
      clear hK K
      (try simp only [Act.put, setZa, setZ0, setZ1])
      have HB := HS.newB P1
      skip
      have HS := HS.alloc (.cells (P1.map encB).toArray 76)
      refine extT_doB rfl (by rfl) (fun K hK => ?_)
      skip
      refine wp_of_list rfl ?_
      refine wpList_append_own_at _ rfl _ _ _ rfl w.heap.size 76 k0 _ 8 8 Tryz.underlying111 hk hk0 hk1 hk2 rfl (by decide) _ _ _ rfl (bk_row HS.bk) _ 1 1 (bkCells P1) rfl (bkCells_len _) (box_news HP1.out HB) (bk_one _) (by unfold maxLen; simp) (by simp) HS.le ?_
      intro v7 w7 ho7 hg7 _ _
      skip
      have HS := HS.appB ho7 hg7
      clear ho7 hg7 HB
      refine hK _ _ HS.ext ?_
      clear hK K
      (try simp only [Act.put, setZa, setZ0, setZ1])
      iterate 2 ((first
       | refine extT_move rfl rfl (by rfl) (by rfl) ?_
       | refine extT_assign rfl rfl (by rfl) (by rfl) ?_
       | refine extT_pick_t rfl rfl (by rfl) (by rfl) (by rfl) ?_
       | refine extT_pick_f rfl rfl (by rfl) (by rfl) (by rfl) ?_
       | (apply extT_take rfl (by rfl)
          · intro w' hS
            have hSc := hS.cells
            (try simp only [World.size_drew, World.cell?_drew] at hSc)
            go_simp
            (try simp (disch := omega) only [i64_id, u64_id, ↓IntWalk.iteOmega, Int.tdiv_eq_ediv_of_nonneg, Int.tmod_eq_emod_of_nonneg])
            try rfl)
       | refine extT_pass rfl (by rfl) ?_); simp only [Act.put, setZa, setZ0, setZ1])
      refine extT_nil ?_
      skip
      rotate_left
      refine wp_build 111 1 _ rfl rfl (build_arr HP1.out _) ?_
      refine hK _ _ (HS.alloc _).ext ?_
      clear hK K
      (try simp only [Act.put, setZa, setZ0, setZ1])
      have HB := HS.newB P1
      have HI := HI.ext (Ext.alloc _ (litB P1))
      have HS := HS.alloc (.cells (P1.map encB).toArray 76)
      refine extT_doB rfl (by rfl) (fun K hK => ?_)
      skip
      refine wp_of_list rfl ?_
      refine wpList_append_one rfl _ _ _ rfl w.heap.size 3 i0 (.int .i64 0) 8 Tryz.underlying40 hi hi0 hi1 hi2 rfl _ _ _ rfl HS.own _ (encI 3) rfl rfl (HI.cell 0 rfl) (by unfold maxLen; simp) (by simp) HS.le ?_
      intro v6 w6 ho6 hg6 _
      have HB := HB.grown hg6 (fun h => HS.own.not_box HB (by decide) h.symm)
      have HS := HS.appI ho6 hg6
      clear ho6 hg6 HI
      refine hK _ _ HS.ext ?_
      clear hK K
      (try simp only [Act.put, setZa, setZ0, setZ1])
      refine extT_doB rfl (by rfl) (fun K hK => ?_)
      skip
      refine wp_of_list rfl ?_
      refine wpList_append_own_at _ rfl _ _ _ rfl w.heap.size 76 k0 _ 8 8 Tryz.underlying111 hk hk0 hk1 hk2 rfl (by decide) _ _ _ rfl (bk_row HS.bk) _ 1 1 (bkCells P1) rfl (bkCells_len _) (box_news HP1.out HB) (bk_one _) (by unfold maxLen; simp) (by simp) HS.le ?_
      intro v7 w7 ho7 hg7 _ _
      skip
      have HS := HS.appB ho7 hg7
      clear ho7 hg7 HB
      refine hK _ _ HS.ext ?_
      clear hK K
      (try simp only [Act.put, setZa, setZ0, setZ1])
      iterate 2 ((first
       | refine extT_move rfl rfl (by rfl) (by rfl) ?_
       | refine extT_assign rfl rfl (by rfl) (by rfl) ?_
       | refine extT_pick_t rfl rfl (by rfl) (by rfl) (by rfl) ?_
       | refine extT_pick_f rfl rfl (by rfl) (by rfl) (by rfl) ?_
       | (apply extT_take rfl (by rfl)
          · intro w' hS
            have hSc := hS.cells
            (try simp only [World.size_drew, World.cell?_drew] at hSc)
            go_simp
            (try simp (disch := omega) only [i64_id, u64_id, ↓IntWalk.iteOmega, Int.tdiv_eq_ediv_of_nonneg, Int.tmod_eq_emod_of_nonneg])
            try rfl)
       | refine extT_pass rfl (by rfl) ?_); simp only [Act.put, setZa, setZ0, setZ1])
      refine extT_nil ?_
      skip
      rotate_left
      refine wp_build 111 1 _ rfl rfl (build_arr HP1.out _) ?_
      refine hK _ _ (HS.alloc _).ext ?_
      clear hK K
      (try simp only [Act.put, setZa, setZ0, setZ1])
      have HB := HS.newB P1
      skip
      have HS := HS.alloc (.cells (P1.map encB).toArray 76)
      refine extT_doB rfl (by rfl) (fun K hK => ?_)
      go_simp
      refine hK _ _ (HS.alloc _).ext ?_
      clear hK K
      (try simp only [Act.put, setZa, setZ0, setZ1])
      have HI := HS.newI 3
      (try simp only [World.size_alloc] at HI)
      have HB := HB.ext (Ext.alloc _ (litI 3))
      have HS := HS.alloc (.cells #[encI 3] 3)
      refine extT_doB rfl (by rfl) (fun K hK => ?_)
      skip
      refine wp_of_list rfl ?_
      refine wpList_append_one rfl _ _ _ rfl w.heap.size 3 i0 (.int .i64 0) 8 Tryz.underlying40 hi hi0 hi1 hi2 rfl _ _ _ rfl HS.own _ (encI 3) rfl rfl (HI.cell 0 rfl) (by unfold maxLen; simp) (by simp) HS.le ?_
      intro v6 w6 ho6 hg6 _
      have HB := HB.grown hg6 (fun h => HS.own.not_box HB (by decide) h.symm)
      have HS := HS.appI ho6 hg6
      clear ho6 hg6 HI
      refine hK _ _ HS.ext ?_
      clear hK K
      (try simp only [Act.put, setZa, setZ0, setZ1])
      refine extT_doB rfl (by rfl) (fun K hK => ?_)
      skip
      refine wp_of_list rfl ?_
      refine wpList_append_own_at _ rfl _ _ _ rfl w.heap.size 76 k0 _ 8 8 Tryz.underlying111 hk hk0 hk1 hk2 rfl (by decide) _ _ _ rfl (bk_row HS.bk) _ 1 1 (bkCells P1) rfl (bkCells_len _) (box_news HP1.out HB) (bk_one _) (by unfold maxLen; simp) (by simp) HS.le ?_
      intro v7 w7 ho7 hg7 _ _
      skip
      have HS := HS.appB ho7 hg7
      clear ho7 hg7 HB
      refine hK _ _ HS.ext ?_
      clear hK K
      (try simp only [Act.put, setZa, setZ0, setZ1])
      iterate 2 ((first
       | refine extT_move rfl rfl (by rfl) (by rfl) ?_
       | refine extT_assign rfl rfl (by rfl) (by rfl) ?_
       | refine extT_pick_t rfl rfl (by rfl) (by rfl) (by rfl) ?_
       | refine extT_pick_f rfl rfl (by rfl) (by rfl) (by rfl) ?_
       | (apply extT_take rfl (by rfl)
          · intro w' hS
            have hSc := hS.cells
            (try simp only [World.size_drew, World.cell?_drew] at hSc)
            go_simp
            (try simp (disch := omega) only [i64_id, u64_id, ↓IntWalk.iteOmega, Int.tdiv_eq_ediv_of_nonneg, Int.tmod_eq_emod_of_nonneg])
            try rfl)
       | refine extT_pass rfl (by rfl) ?_); simp only [Act.put, setZa, setZ0, setZ1])
      refine extT_nil ?_
      skip
      rotate_left
      all_goals
        obtain ⟨a7, c7, rfl⟩ := HS.own.shape
        obtain ⟨a8, c8, rfl⟩ := HS.bk.shape
        have HSN := Lib.hid HS
        clear HS hld hcd hpl2 hdl2
        go_wp2_with fail
        go_roundw
        case rel => exact ⟨4, by omega, by go_num, HSN⟩
        case measure => simp [intOf]
    · -- round 4
      obtain ⟨af, cf, rfl⟩ := HSH.out.own.shape
      obtain ⟨ab, cb, rfl⟩ := HSH.out.bk.shape
      simp only [fromL, blkL, Nat.reduceLeDiff, Nat.reduceEqDiff, ↓reduceIte, List.length_nil, List.length_cons, Nat.reduceAdd] at HSH ⊢
      have hcd := (Below.cell HSH.out.ext (p := ⟨db, dO + 4, none⟩) hdl).trans hd4
      have hdl2 := Nat.lt_of_lt_of_le hdl HSH.out.ext.size
      go_wp2_with fail
      go_roundw
      case rel => exact ⟨5, by omega, by go_num, HSH⟩
      case measure => simp [intOf]
    · -- the end of the loop
      obtain ⟨af, cf, rfl⟩ := HSH.out.own.shape
      obtain ⟨ab, cb, rfl⟩ := HSH.out.bk.shape
      simp only [fromL, blkL, Nat.reduceLeDiff, Nat.reduceEqDiff, ↓reduceIte, List.length_nil, List.length_cons, Nat.reduceAdd] at HSH ⊢
      generalize wr = w1 at *
      have HX1 := Lib.hid HSH.out.ext
      have HFR := Lib.hid (OwnG.slice HSH.out.own)
      have HBL := Lib.hid (OwnBk.blks HSH.out.bk (by simp) (fun i h => by
        have h2 : i < 2 := h
        rcases (by omega : i = 0 ∨ i = 1) with rfl | rfl
        · exact HP0.out
        · exact HP1.out))
      have e0 := (Below.cell HX1.out (p := ⟨db, dO, none⟩) hdl).trans hd0
      have e1 := (Below.cell HX1.out (p := ⟨db, dO + 1, none⟩) hdl).trans hd1
      have e2 := (Below.cell HX1.out (p := ⟨db, dO + 2, none⟩) hdl).trans hd2
      have e3 := (Below.cell HX1.out (p := ⟨db, dO + 3, none⟩) hdl).trans hd3
      have e4 := (Below.cell HX1.out (p := ⟨db, dO + 4, none⟩) hdl).trans hd4
      have dl1 := Nat.lt_of_lt_of_le hdl HX1.out.size
      have hw1 := HX1.out.size
      clear HSH hd0 hd1 hd2 hd3 hd4 HS0
      go_wp2_with fail
      go_at_call 97
      refine (cloneBk_any _ [D0, D1, P0, P1, P2] _ (by simp) (by simp) (HPB.out.ext HX1.out)).mono ?_
      rintro e w2 ⟨vo, rfl, hO2, hx2⟩
      obtain ⟨g, cap, cur, rfl, hgb, hgc, hcap, hcur⟩ : ∃ g cap cur, vo = .slice (some ⟨g, 0, none⟩) 5 cap ∧ w1.heap.size ≤ g ∧ BoxAt w2 g cur 76 ∧ 5 ≤ cap ∧ cur.size = cap * 8 := by
        rcases hO2.2 with ⟨_, h2⟩ | ⟨g, cap, cur, h1, h3, h4, h5, h6, h7, h8⟩
        · simp at h2
        · exact ⟨g, cap, cur, h1, h3, h4, h5, h7⟩
      have f0 := (Below.cell hx2 (p := ⟨db, dO, none⟩) dl1).trans e0
      have f1 := (Below.cell hx2 (p := ⟨db, dO + 1, none⟩) dl1).trans e1
      have dl2 := Nat.lt_of_lt_of_le dl1 hx2.size
      have HX2 := Lib.hid hx2
      have hgl2 := hgc.lt
      have HG2 := Lib.hid hgc
      have HC2 := Lib.hid hcur
      clear hO2 hx2 hgc hcur
      go_wp2_with fail
      refine wp_loop_rounds 6 ?_
      rw [rounds_succ]
      go_wp2_with fail
      go_at_call 98
      refine (weights_any _ 0 _ (by decide) (HFR.out.ext HX2.out)).mono ?_
      rintro e w3 ⟨vw, rfl, hw3, hx3⟩
      rw [wts0] at hw3
      obtain ⟨va, vc, rfl⟩ := hw3.shape
      have HW3 := Lib.hid hw3
      have HX3 := Lib.hid (HX2.out.trans hx3)
      have HG3 := Lib.hid (HG2.out.ext hx3)
      clear hw3 hx3
      simp only [List.length_cons, List.length_nil, Nat.reduceAdd] at HW3 ⊢
      go_wp2_with fail
      go_at_call 99
      refine (combine_any _ _ _ _ P0 P1 _ HW3.out (HBL.out.ext HX3.out)).mono ?_
      rintro e w4 ⟨rfl, hx4⟩
      have HX4 := Lib.hid (HX3.out.trans hx4)
      have HG4 := Lib.hid (HG3.out.ext hx4)
      have hgl4 := HG4.out.lt
      clear hx4 HX3 HG3
      have HCL := Lib.hid (comb_len (p := (wtsL 0).getD 0 0#8) (q := (wtsL 0).getD 1 0#8) HP0.out HP1.out)
      go_wp2_with (refine wpList_store_arrO _ _ rfl (by rfl) rfl rfl HG4.out HCL.out (by have := HC2.out; omega) HX4.out hgb ?_; intro w5 cw5 hx5 hg5 hc5 hn5 hs5)
      have HX5 := Lib.hid hx5
      have HG5 := Lib.hid hg5
      have HC5 : Hid (cw5.size = cap * 8) := hc5.trans HC2.out
      have HN5 := Lib.hid hn5
      have q0 := (Below.cell HX5.out (p := ⟨db, dO, none⟩) dl1).trans e0
      have q1 := (Below.cell HX5.out (p := ⟨db, dO + 1, none⟩) dl1).trans e1
      have q2 := (Below.cell HX5.out (p := ⟨db, dO + 2, none⟩) dl1).trans e2
      have q3 := (Below.cell HX5.out (p := ⟨db, dO + 3, none⟩) dl1).trans e3
      have q4 := (Below.cell HX5.out (p := ⟨db, dO + 4, none⟩) dl1).trans e4
      have dl5 := Nat.lt_of_lt_of_le dl1 HX5.out.size
      clear hx5 hg5 hc5 hn5 hs5 HG4 HX4 hgl4 HW3 HCL
      clear f0 f1 dl2 hgl2 HX2 HG2 HC2
      go_wp2_with fail
      rw [rounds_succ]
      go_wp2_with fail
      go_at_call 98
      refine (weights_any _ 1 _ (by decide) (HFR.out.ext HX5.out)).mono ?_
      rintro e w3 ⟨vw, rfl, hw3, hx3⟩
      have HX2 := HX5
      have HG2 := HG5
      have HC2 := HC5
      clear q0 q1 q2 q3 q4 dl5 HX5 HG5 HC5 HN5
      rw [wts1] at hw3
      obtain ⟨va, vc, rfl⟩ := hw3.shape
      have HW3 := Lib.hid hw3
      have HX3 := Lib.hid (HX2.out.trans hx3)
      have HG3 := Lib.hid (HG2.out.ext hx3)
      clear hw3 hx3
      simp only [List.length_cons, List.length_nil, Nat.reduceAdd] at HW3 ⊢
      go_wp2_with fail
      go_at_call 99
      refine (combine_any _ _ _ _ P0 P1 _ HW3.out (HBL.out.ext HX3.out)).mono ?_
      rintro e w4 ⟨rfl, hx4⟩
      have HX4 := Lib.hid (HX3.out.trans hx4)
      have HG4 := Lib.hid (HG3.out.ext hx4)
      have hgl4 := HG4.out.lt
      clear hx4 HX3 HG3
      have HCL := Lib.hid (comb_len (p := (wtsL 1).getD 0 0#8) (q := (wtsL 1).getD 1 0#8) HP0.out HP1.out)
      go_wp2_with (refine wpList_store_arrO _ _ rfl (by rfl) rfl rfl HG4.out HCL.out (by have := HC2.out; omega) HX4.out hgb ?_; intro w9 cw9 hx5 hg5 hc5 hn5 hs5)
      have HX5 := Lib.hid hx5
      have HG5 := Lib.hid hg5
      have HC5 : Hid (cw9.size = cap * 8) := hc5.trans HC2.out
      have HN5 := Lib.hid hn5
      have q0 := (Below.cell HX5.out (p := ⟨db, dO, none⟩) dl1).trans e0
      have q1 := (Below.cell HX5.out (p := ⟨db, dO + 1, none⟩) dl1).trans e1
      have q2 := (Below.cell HX5.out (p := ⟨db, dO + 2, none⟩) dl1).trans e2
      have q3 := (Below.cell HX5.out (p := ⟨db, dO + 3, none⟩) dl1).trans e3
      have q4 := (Below.cell HX5.out (p := ⟨db, dO + 4, none⟩) dl1).trans e4
      have dl5 := Nat.lt_of_lt_of_le dl1 HX5.out.size
      clear hx5 hg5 hc5 hn5 hs5 HG4 HX4 hgl4 HW3 HCL
      clear HX2 HG2 HC2
      go_wp2_with fail
      rw [rounds_succ]
      go_wp2_with fail
      rw [rounds_succ]
      go_wp2_with fail
      rw [rounds_succ]
      go_wp2_with fail
      rw [rounds_succ]
      go_wp2_with fail
      go_ret2
      refine ⟨g, cap, rfl, HG5.out.lt, fun j hj => HG5.out.cell (8 + j) (HN5.out j hj), HX1.out.trans HX5.out⟩
end Go.Proofs.YtjabgpejmnpamaaGreatDoor

namespace Go.Proofs.YtjabgpejmnpamaaGreatDoor
section
variable {P : Program} {Q : Exit → Act → World → Prop} {md : Region.Mode} {l n : Nat}
def noDefer (ops : Array Oper) : Bool := ops.all fun o => match o.op with | .defer _ => false | _ => true
theorem noDefer_spec {ops : Array Oper} (h : noDefer ops = true) {i : Nat} {o : Oper} (ho : ops[i]? = some o) : ∀ c, o.op ≠ .defer c := by
  intro c hc
  unfold noDefer at h
  rw [Array.all_eq_true] at h
  obtain ⟨hlt, he⟩ := Array.getElem?_eq_some_iff.1 ho
  have := h i hlt
  rw [he, hc] at this
  cases this
theorem upon_wide {o : Oper} {a : Act} {next : Act → World → Prop} {r : Result Next} (h : o.upon P a next Q r) : o.uponIn (Fence.wide.inRound l) n P a next Q r := by
  have hd : ¬ ((Fence.wide.inRound l).depth.isSome = true) := by simp [Fence.wide]
  unfold Oper.upon at h
  unfold Oper.uponIn
  split at h
  · exact h
  · exact h
  · exact h
  · exact ⟨fun x => absurd x hd, CallsIn.inRound l (callsIn_wide.2 h)⟩
  · refine ⟨fun x => absurd x hd, fun c cs hr => ?_⟩
    obtain ⟨v, w', r, s⟩ := h c cs
    exact ⟨v, w', r, stepsIn_wide.2 s⟩
  · exact h
  · exact h.elim
theorem op_wide {o : Oper} {a : Act} {w : World} {next : Act → World → Prop} (hd : ∀ c, o.op ≠ .defer c) (h : o.wp P a w next Q) : o.wpIn (Fence.wide.inRound l) n P a w next Q := by
  refine ⟨fun _ _ => trivial, ?_⟩
  rw [Oper.semAt_eq _ _ _ hd]
  exact upon_wide h
theorem calm_shut : ¬ LetsOut (Calm Q) := fun ⟨_, _, h⟩ => h
theorem any_wide {ops : Array Oper} (hd : noDefer ops = true) : ∀ (fuel : Nat) (listed : Array Bool) (a : Act) (w : World), wpAny P md ops (Calm Q) fuel listed a w → wpAnyIn (Fence.wide.inRound l) n P md ops (Calm Q) fuel listed a w
  | 0, _, _, _, h => h
  | fuel + 1, listed, a, w, h => by
    refine ⟨h.1, fun i hi => ?_⟩
    have h2 := h.2 i hi
    unfold wpOp at h2
    unfold wpOpIn
    cases ho : ops[i]? with
    | none => rw [ho] at h2; exact any_wide hd fuel _ _ _ h2
    | some o =>
      rw [ho] at h2
      simp only at h2 ⊢
      split at h2
      · rename_i hw
        rw [if_pos hw]
        rcases h2 with h2 | h2
        · exact op_wide (noDefer_spec hd ho) (Oper.wp_mono (fun a' w' hk => any_wide hd fuel _ _ _ hk) h2)
        · exact (calm_shut h2.2).elim
      · rename_i hw
        rw [if_neg hw]
        exact ⟨fun _ _ => trivial, any_wide hd fuel _ _ _ h2⟩
end
section
variable {P : Program} {l : List Oper} {Q : Exit → Act → World → Prop} {a : Act} {w : World} {lo n : Nat}
theorem wpIn_region_exq {id : Nat} (ord : List (Nat × Bool)) (hm : P.follows .mixedOrders = true) (hd : noDefer l.toArray = true)
    (hB : (Region.noSelect l.toArray && ordB .any l.toArray ord (Array.replicate l.length false) && (ord.length == l.length)) = true)
    (h : wpExq P l Q ord w a w.drew) : (Code.region id l.toArray true).wpIn (Fence.wide.inRound lo) n P Q a w := by
  simp only [Bool.and_eq_true, beq_iff_eq] at hB
  obtain ⟨⟨h1, h2⟩, h3⟩ := hB
  refine Code.wpIn_mono (Q := Calm Q) (fun e a w hq => ?_) (wpIn_region_any hm (any_wide hd _ _ _ _ ?_))
  · cases e <;> first | exact hq | exact (hq : False).elim
  · have := wpAny_of_Q _ _ _ _ _ (wpAnyQ_of_ord h1 (fun _ _ _ _ _ h => h) ord (Ext w) _ a _ Closed.none h2 (Ext.drew _) h)
    rw [h3] at this
    simpa using this
theorem exq_load {i : Nat} {o : Oper} {r : List (Nat × Bool)} {b : World} {v p : Value} {x : Operand} (ty : TypeId) (ho : nth l i = some o) (hop : o.op = .load ty x) (hw : Region.wanted o (yielded l.toArray a.tmps) = true) (hx : evalL a x = some p)
    (h : ∀ w', Ext b w' → (Instr.loadAt ty p).run P w' = .ok v w') (k : wpExq P l Q r b (a.put o.dst v) w) : wpExq P l Q ((i, true) :: r) b a w :=
  exq_take ho hw (fun w' hS => by unfold execOp; rw [hop]; simp only [evalL_eq hx, Sem.run_bind, h w' hS]; rfl) k
end
end Go.Proofs.YtjabgpejmnpamaaGreatDoor

namespace Go.Proofs.YtjabgpejmnpamaaGreatDoor
open Go.RowKit Go.Shelf
set_option maxRecDepth 100000
attribute [local go_sem] wrapI_ub wrap8_ub unsigned8 xor_ub Oper.semAt_some
theorem wpListIn_loadR {F : Fence} {n : Nat} {P : Program} {ops : Array Oper} {rest : List Oper} {o : Oper} {a : Act} {w : World} {Q : Exit → Act → World → Prop} (ty : TypeId) (x : Operand) (ho : o.op = .load ty x)
    (hg : o.guard = none) {p v : Value} (hx : a.eval x = p) (hl : (Instr.loadAt ty p).run P w = .ok v w)
    (h : wpListIn F n P ops Q rest (a.put o.dst v) w) : wpListIn F n P ops Q (o :: rest) a w := by
  refine wpListIn_plain hg fun K hK => ?_
  unfold Oper.wpIn
  refine ⟨?_, ?_⟩
  · simp [Oper.about, ho]
  · rw [Oper.semAt_plain F _ _ (by rw [ho]; intro c hc'; cases hc')]
    unfold execOp
    simp only [ho, hx, Sem.run_bind, Sem.run_pure, Result.andThen_ok, hl]
    exact hK _ _ h
theorem BlksAt.below {w w' : World} {b off n cap B : Nat} {ls : List (List (BitVec 8))} (h : BlksAt w (.slice (some ⟨b, off, none⟩) n cap) ls) (e : Below B w w') (hb : b < B) : BlksAt w' (.slice (some ⟨b, off, none⟩) n cap) ls := by
  obtain ⟨b', off', cap', hv, hc, hbl, h⟩ := h
  have hv2 := hv
  injection hv with hv
  injection hv with hv
  injection hv with h1 h2
  subst h1 h2
  exact ⟨b, off, cap', hv2, hc, Nat.lt_of_lt_of_le hbl e.size, fun i hi => ⟨(h i hi).1, fun j hj => (Below.cell e (p := ⟨b, off + 8 * i + j, none⟩) hb).trans ((h i hi).2 j hj)⟩⟩
structure KeepX (N g : Nat) (W W' : World) : Prop where
  size : W.heap.size ≤ W'.heap.size
  same : ∀ k, k < N → k ≠ g → W'.heap[k]? = W.heap[k]?
theorem KeepX.trans {N g : Nat} {A B C : World} (h : KeepX N g A B) (k : KeepX N g B C) : KeepX N g A C := ⟨Nat.le_trans h.size k.size, fun i hi hg => (k.same i hi hg).trans (h.same i hi hg)⟩
theorem KeepX.cell {N g : Nat} {W W' : World} (h : KeepX N g W W') {k o : Nat} (hk : k < N) (hg : k ≠ g) : W'.cell? ⟨k, o, none⟩ = W.cell? ⟨k, o, none⟩ := World.cell?_of_block (a := ⟨k, o, none⟩) (h.same k hk hg)
theorem KeepX.ext {N g : Nat} {W W' : World} (h : Ext W W') (hN : N ≤ W.heap.size) : KeepX N g W W' := ⟨h.size, fun k hk _ => h.block k (Nat.lt_of_lt_of_le hk hN)⟩
theorem KeepX.put {N g : Nat} (W : World) (l : Nat) (o : Obj) (hl : N ≤ l) : KeepX N g W (W.putObj l o) := ⟨by simp, fun k hk _ => World.putObj_heap_other (by omega)⟩
theorem BlksAt.keep {w w' : World} {b off n cap N g : Nat} {ls : List (List (BitVec 8))} (h : BlksAt w (.slice (some ⟨b, off, none⟩) n cap) ls) (e : KeepX N g w w') (hb : b < N) (hg : b ≠ g) : BlksAt w' (.slice (some ⟨b, off, none⟩) n cap) ls := by
  obtain ⟨b', off', cap', hv, hc, hbl, h⟩ := h
  have hv2 := hv
  injection hv with hv
  injection hv with hv
  injection hv with h1 h2
  subst h1 h2
  exact ⟨b, off, cap', hv2, hc, Nat.lt_of_lt_of_le hbl e.size, fun i hi => ⟨(h i hi).1, fun j hj => (e.cell hb hg).trans ((h i hi).2 j hj)⟩⟩
def pickL (A B : List (BitVec 8)) (x : Nat) : List (BitVec 8) := if x = 0 then A else B
abbrev encK (A B : List (BitVec 8)) (x : Nat) : Array Value := #[.int .i64 (x : Int), arrV (pickL A B x)]
set_option maxHeartbeats 2000000 in
theorem back1_in (n : Nat) (hn : 1 ≤ n) (l g1 n₀ go b off cap : Nat) (A B : List (BitVec 8)) (hg1 : g1 < n₀) (hb : b < n₀) (ho1 : g1 ≠ go) (hob : b ≠ go) (J Jx : List Nat → World → Prop)
    (hY : ∀ pre x W, J pre W → pre.length < 2 → YieldAt Fence.wide (n - 1) Tryz.prog l (encK A B x) W fun e W' =>
      (e = .returned (.bool true) ∧ J (pre ++ [x]) W' ∧ KeepX n₀ go W W') ∨ (e = .returned (.bool false) ∧ Jx (pre ++ [x]) W'))
    (W : World) (hW : n₀ ≤ W.heap.size) (hc1 : W.cell? ⟨g1, 0, none⟩ = some (.slice (some ⟨b, off, none⟩) 2 cap)) (hB : BlksAt W (.slice (some ⟨b, off, none⟩) 2 cap) [A, B]) (h0 : J [] W) :
    CallsIn Fence.wide n Tryz.prog 141 #[.func (.yield l) #[] #[], .pointer (some ⟨g1, 0, none⟩)] W fun e W' => (∃ v, e = .returned v) ∧
      ((∃ ys, ys = [1, 0] ∧ J ys W') ∨ (∃ pre, True ∧ Jx pre W')) := by
  refine callsIn_of_wp Tryz.func141 rfl trivial ?_ rfl
  simp only [Tryz.ntmps141, List.size_toArray, List.length_cons, List.length_nil, Nat.reduceAdd, Nat.reduceSub, Array.replicate_succ, Array.replicate_zero, List.push_toArray, List.append_toArray, List.nil_append, List.cons_append]
  have hl1 : g1 < W.heap.size := by omega
  have hcap : 2 ≤ cap := by
    obtain ⟨_, _, _, hv, hc, _⟩ := hB
    injection hv with _ _ hv
    rw [hv]; exact hc
  have hld1 : (Instr.loadAt 76 (.pointer (some ⟨b, off + 8, none⟩))).run Tryz.prog W = .ok (arrV B) W := hB.load 1 (by simp)
  obtain ⟨fn, tmps, assign, body, hy, hR⟩ := hY [] 1 W h0 (by simp)
  have HB := Lib.hid hB
  clear hB
  have hy1 : (Instr.yield l #[.int .i64 1, arrV B]).run Tryz.prog W = .ok (.round l fn tmps assign body) W := hy
  clear hy
  gi_wp2
  refine wpIn_loop_rounds 3 ?_
  rw [roundsIn_succ]
  gi_wp2_with (refine wpListIn_loadR 76 _ rfl rfl rfl hld1 ?_)
  refine hR.mono ?_
  rintro e W3 (⟨rfl, hJ3, hk3⟩ | ⟨rfl, hJx3⟩)
  · have hc3 : W3.cell? ⟨g1, 0, none⟩ = some (.slice (some ⟨b, off, none⟩) 2 cap) := (hk3.cell hg1 ho1).trans hc1
    have hB3 := HB.out.keep hk3 hb hob
    have hld3 : (Instr.loadAt 76 (.pointer (some ⟨b, off, none⟩))).run Tryz.prog W3 = .ok (arrV A) W3 := hB3.load 0 (by simp)
    have hl3 : g1 < W3.heap.size := Nat.lt_of_lt_of_le hl1 hk3.size
    obtain ⟨fn2, tmps2, assign2, body2, hy2, hR2⟩ := hY [1] 0 W3 hJ3 (by simp)
    have hy3 : (Instr.yield l #[.int .i64 0, arrV A]).run Tryz.prog W3 = .ok (.round l fn2 tmps2 assign2 body2) W3 := hy2
    clear hy2 hB3 hld1 hy1 hc1
    gi_wp2
    rw [roundsIn_succ]
    gi_wp2_with (refine wpListIn_loadR 76 _ rfl rfl rfl hld3 ?_)
    refine hR2.mono ?_
    rintro e W4 (⟨rfl, hJ4, hk4⟩ | ⟨rfl, hJx4⟩)
    · clear hld3 hy3
      gi_wp2
      rw [roundsIn_succ]
      gi_wp2
      go_end0
      exact ⟨⟨_, rfl⟩, .inl ⟨_, rfl, hJ4⟩⟩
    · gi_wp2
      refine bodyPost_ret (results_none rfl _ _ _) rfl ?_
      exact ⟨⟨_, rfl⟩, .inr ⟨_, trivial, hJx4⟩⟩
  · gi_wp2
    refine bodyPost_ret (results_none rfl _ _ _) rfl ?_
    exact ⟨⟨_, rfl⟩, .inr ⟨_, trivial, hJx3⟩⟩
theorem back_stops (n : Nat) (hn : 1 ≤ n) (g1 go b off cap : Nat) (A B : List (BitVec 8)) (w : World) (hg1 : g1 < w.heap.size) (hb : b < w.heap.size) (ho1 : g1 ≠ go) (hob : b ≠ go)
    (hc1 : w.cell? ⟨g1, 0, none⟩ = some (.slice (some ⟨b, off, none⟩) 2 cap)) (hB : BlksAt w (.slice (some ⟨b, off, none⟩) 2 cap) [A, B]) :
    SeqStopsK Fence.wide n Tryz.prog 141 #[.pointer (some ⟨g1, 0, none⟩)] (encK A B) (KeepX w.heap.size go) (fun ys => ys = [1, 0]) (fun _ => True) 2 w := fun l J Jx W hW hJ _ hY h0 =>
  back1_in n hn l g1 w.heap.size go b off cap A B hg1 hb ho1 hob J Jx hY W hW.size ((hW.cell (p := ⟨g1, 0, none⟩) hg1).trans hc1) (hB.below hW hb) h0
theorem backward_any (ba : Option Addr) (bn bc : Nat) (w : World) :
    Calls Tryz.prog 93 #[.slice ba bn bc] w fun e w' => e = .returned (.func (.func 141) #[] #[.pointer (some ⟨w.heap.size, 0, none⟩)]) ∧ w' = w.alloc (.cells #[.slice ba bn bc] 111) := by
  go_enter Tryz.func93, Tryz.ntmps93
  go_wp2_with fail
  go_ret
  exact ⟨rfl, rfl⟩
theorem mk3b (w : World) : (Instr.makeSlice 111 (.int .i64 3) (.int .i64 3)).run Tryz.prog w = .ok (.slice (some ⟨w.heap.size, 0, none⟩) 3 3) (w.alloc (.cells ((zero8 ++ zero8 ++ zero8).map encB).toArray 76)) := by
  obtain ⟨i0, hi, hz0, hz1, hz2⟩ := info_parts infoK
  have h := run_make (P := Tryz.prog) w 111 76 i0 _ Tryz.underlying111 hi hz0 .i64 .i64 3 3 (by decide) (by decide) (by rw [hz2]; decide) (by decide)
  have e : madeCells (Value.agg #[.int .u8 0, .int .u8 0, .int .u8 0, .int .u8 0, .int .u8 0, .int .u8 0, .int .u8 0, .int .u8 0]).cells (Int.toNat 3 * 8) = ((zero8 ++ zero8 ++ zero8).map encB).toArray := by kernel_rfl
  rw [hz1, e] at h
  exact h
def OutAt (W : World) (g : Nat) (rows : List (List (BitVec 8))) : Prop := ∃ cs : Array Value, BoxAt W g cs 76 ∧ cs.size = 24 ∧ rows.length = 3 ∧ ∀ i (h : i < rows.length), rows[i].length = 8 ∧ ∀ j, j < 8 → cs[8 * i + j]? = some (encB (rows[i].getD j 0#8))
theorem OutAt.blks {W : World} {g : Nat} {rows : List (List (BitVec 8))} (h : OutAt W g rows) : BlksAt W (.slice (some ⟨g, 0, none⟩) 3 3) rows := by
  obtain ⟨cs, hb, hs, hl, h⟩ := h
  exact ⟨g, 0, 3, by rw [hl], by rw [hl]; exact Nat.le_refl _, hb.lt, fun i hi => ⟨(h i hi).1, fun j hj => by rw [Nat.zero_add]; exact hb.cell _ ((h i hi).2 j hj)⟩⟩
theorem box_own {β : Type} (B : Nat) {g : Nat} {cs : Array Value} {t : TypeId} : OwnFrom B (fun (_ : β) W => BoxAt W g cs t) := fun s X Y row hs hg hr => by
  refine BoxAt.grown hs hg (fun e => ?_)
  obtain ⟨_, o, ho, hc⟩ := hr g e.symm
  rw [show X.heap[g]? = _ from hs] at ho
  cases ho
  cases hc
theorem out_own {β : Type} (B : Nat) {g : Nat} (f : β → List (List (BitVec 8))) : OwnFrom B (fun (s : β) W => OutAt W g (f s)) := fun s X Y row hs hg hr => by
  obtain ⟨cs, hb, r⟩ := hs
  exact ⟨cs, box_own (β := Unit) B () X Y row hb hg hr, r⟩
theorem arr_own {β : Type} (B : Nat) {g : Nat} {l : List (BitVec 8)} : OwnFrom B (fun (_ : β) W => ArrAt W g l) := fun s X Y row hs hg hr => ⟨box_own (β := Unit) B () X Y row hs.1 hg hr, hs.2⟩
theorem size_own {β : Type} (B N : Nat) : OwnFrom B (fun (_ : β) (W : World) => N ≤ W.heap.size) := fun s X Y row hs hg hr => Nat.le_trans hs hg.size
def DefAt (l : List Nat) (W : World) : Prop := ∀ D, D ∈ l → W.heap[D]? = some (.deferred (some []))
theorem def_own {β : Type} {B : Nat} {l : List Nat} (hl : ∀ D, D ∈ l → D < B) : OwnFrom B (fun (_ : β) W => DefAt l W) := fun s X Y row hs hg hr D hD =>
  (hg.block D (Array.getElem?_eq_some_iff.1 (hs D hD)).1 (fun e => by have := (hr _ e.symm).1; have := hl D hD; omega)).trans (hs D hD)
theorem DefAt.ext {l : List Nat} {W W' : World} (h : DefAt l W) (e : Ext W W') : DefAt l W' := fun D hD => (e.block D (Array.getElem?_eq_some_iff.1 (h D hD)).1).trans (h D hD)
theorem DefAt.other {l : List Nat} {W W' : World} {g : Nat} {cs : Array Value} {t : TypeId} (h : DefAt l W) (hs : ∀ k, k ≠ g → W'.heap[k]? = W.heap[k]?) (hg : BoxAt W g cs t) : DefAt l W' := fun D hD => (hs D (fun e => by
  have h1 := h D hD
  rw [e, show W.heap[g]? = _ from hg] at h1
  cases h1)).trans (h D hD)
theorem DefAt.cons {l : List Nat} {W : World} {D : Nat} (h : DefAt l W) (hD : W.heap[D]? = some (.deferred (some []))) : DefAt (D :: l) W := fun E hE => by
  rcases List.mem_cons.1 hE with rfl | hE
  · exact hD
  · exact h E hE
theorem DefAt.nil (W : World) : DefAt [] W := fun _ h => absurd h (by simp)
theorem below_putD {B : Nat} {w W : World} {D : Nat} {o : Obj} (h : Below B w W) (hD : B ≤ D) : Below B w (W.putObj D o) :=
  ⟨h.os, h.tape, h.output, by simpa using h.size, fun k hk => (World.putObj_heap_other (by omega)).trans (h.block k hk)⟩
def rowF (A B : List (BitVec 8)) (c : BitVec 8) (pre : List Nat) : List (BitVec 8) := pre.foldl (fun r x => fusedG (pickL A B x) r c) zero8
theorem rowF_len {A B : List (BitVec 8)} {c : BitVec 8} (hA : A.length = 8) (hB : B.length = 8) (pre : List Nat) : (rowF A B c pre).length = 8 := by
  unfold rowF
  have key : ∀ (pre : List Nat) (r : List (BitVec 8)), r.length = 8 → (pre.foldl (fun r x => fusedG (pickL A B x) r c) r).length = 8 := by
    intro pre
    induction pre with
    | nil => intro r hr; exact hr
    | cons x pre ih =>
      intro r hr
      refine ih _ ?_
      have hx : (pickL A B x).length = 8 := by unfold pickL; split <;> assumption
      rw [fusedG_length _ _ _ (by omega)]; exact hx
  exact key pre zero8 rfl
theorem rowF_snoc {A B : List (BitVec 8)} {c : BitVec 8} {pre : List Nat} {x : Nat} : rowF A B c (pre ++ [x]) = fusedG (pickL A B x) (rowF A B c pre) c := by
  unfold rowF; rw [List.foldl_append]; rfl
theorem keeps_ext {W W' : World} (e : Ext W W') : KeepsOthers W W' := ⟨e.size, fun k o h _ => (e.block k (Array.getElem?_eq_some_iff.1 h).1).trans h⟩
theorem arrc_below {B : Nat} {w0 : World} {b : Nat} (hb : B ≤ b) : ∀ (vs : List Value) (o : Nat) (w : World), Below B w0 w → Below B w0 (w.setCells b o vs)
  | [], _, _, h => h
  | v :: r, o, w, h => by rw [World.setCells]; exact arrc_below hb r _ _ (bel_set h hb o v)
theorem wpList_store_arrP {ops : Array Oper} {rest : List Oper} {o : Oper} {a : Act} {w : World} {Q : Exit → Act → World → Prop} (x y : Operand) (ho : o.op = .store 76 x y)
    (hw : Region.wanted o (yielded ops a.tmps) = true) {g f : Nat} {cs : Array Value} {t : TypeId} {l : List (BitVec 8)} (hx : a.eval x = .pointer (some ⟨g, f, none⟩)) (hy : a.eval y = arrV l) (hb : BoxAt w g cs t) (hl : l.length = 8) (hf : f + 8 ≤ cs.size)
    (h : ∀ w' cs', (∀ k, k ≠ g → w'.heap[k]? = w.heap[k]?) → (∀ B w0, Below B w0 w → B ≤ g → Below B w0 w') → BoxAt w' g cs' t → cs'.size = cs.size → (∀ j, j < 8 → cs'[f + j]? = some (encB (l.getD j 0#8))) → (∀ i, i < f ∨ f + 8 ≤ i → cs'[i]? = cs[i]?) → w'.heap.size = w.heap.size → wpList Tryz.prog ops Q rest (a.put o.dst undef) w') : wpList Tryz.prog ops Q (o :: rest) a w := by
  refine wpList_step fun K hK => ?_
  rw [if_pos hw]
  have hs : ((l.map encB).toArray).size = 8 := by simp [hl]
  have hrun := run_storeAt_mid (P := Tryz.prog) w g f 76 (l.map encB).toArray (fun j hj => ⟨by
    obtain ⟨v, hv⟩ : ∃ v, cs[f + j]? = some v := ⟨_, Array.getElem?_eq_getElem (by omega)⟩
    rw [hb.cell _ hv]; rfl, hb.free _⟩) (by rw [hs]; kernel_rfl) (by simp [Value.oneCell'])
  obtain ⟨cs', h1, h2, h3, h5, h4⟩ := arrc_box (l.map encB) f w cs hb (by simp [hl]; omega)
  unfold Oper.wp execOp
  simp only [ho, hx, hy, Sem.run_bind, Sem.run_pure, Result.andThen_ok, hrun]
  refine hK _ _ (h _ cs' (fun k hk => arrc_other _ _ _ k hk) (fun B w0 hb0 hB => arrc_below hB _ _ _ hb0) h1 h2 (fun j hj => ?_) (fun i hi => ?_) (arrc_size _ _ _))
  · rw [h4 j (by simp [hl]; exact hj), List.getElem?_map, List.getElem?_eq_getElem (by omega), getD_in (by omega)]
    rfl
  · rcases hi with hi | hi
    · exact h3 i hi
    · exact h5 i (by simp [hl]; exact hi)
theorem wpListIn_store_arr {F : Fence} {n : Nat} {ops : Array Oper} {rest : List Oper} {o : Oper} {a : Act} {w : World} {Q : Exit → Act → World → Prop} (x y : Operand) (ho : o.op = .store 76 x y)
    (hgd : o.guard = none) {g : Nat} {l l' : List (BitVec 8)} (hx : a.eval x = .pointer (some ⟨g, 0, none⟩)) (hy : a.eval y = arrV l') (hb : ArrAt w g l) (hl : l'.length = 8)
    (h : ∀ w', (∀ k, k ≠ g → w'.heap[k]? = w.heap[k]?) → (∀ B w0, Below B w0 w → B ≤ g → Below B w0 w') → ArrAt w' g l' → w'.heap.size = w.heap.size → wpListIn F n Tryz.prog ops Q rest (a.put o.dst undef) w') : wpListIn F n Tryz.prog ops Q (o :: rest) a w := by
  refine wpListIn_plain hgd fun K hK => ?_
  have hs : ((l'.map encB).toArray).size = 8 := by simp [hl]
  have hrun := run_storeAt_mid (P := Tryz.prog) w g 0 76 (l'.map encB).toArray (fun j hj => ⟨by rw [Nat.zero_add, hb.cell j (by omega)]; rfl, by rw [Nat.zero_add]; exact hb.free j⟩) (by rw [hs]; kernel_rfl) (by simp [Value.oneCell'])
  unfold Oper.wpIn
  refine ⟨by simp [Oper.about, ho], ?_⟩
  rw [Oper.semAt_plain F _ _ (by rw [ho]; intro c hc'; cases hc')]
  unfold execOp
  simp only [ho, hx, hy, Sem.run_bind, Sem.run_pure, Result.andThen_ok, hrun]
  refine hK _ _ (h _ (fun k hk => arrc_other _ _ _ k hk) (fun B w0 hb0 hB => arrc_below hB _ _ _ hb0) ⟨?_, hl⟩ (arrc_size _ _ _))
  have := arrc_all hb.1 (l'.map encB) (by simp [hl, hb.2])
  simpa using this
theorem OutAt.put {W' : World} {g j : Nat} {rows : List (List (BitVec 8))} {l : List (BitVec 8)} {cs cs' : Array Value} (hz : cs.size = 24) (hr : rows.length = 3) (hce : ∀ i (h : i < rows.length), rows[i].length = 8 ∧ ∀ k, k < 8 → cs[8 * i + k]? = some (encB (rows[i].getD k 0#8)))
    (hl : l.length = 8) (hb : BoxAt W' g cs' 76) (hz' : cs'.size = cs.size) (hn : ∀ k, k < 8 → cs'[8 * j + k]? = some (encB (l.getD k 0#8))) (ho : ∀ i, i < 8 * j ∨ 8 * j + 8 ≤ i → cs'[i]? = cs[i]?) : OutAt W' g (rows.set j l) := by
  refine ⟨cs', hb, hz'.trans hz, by rw [List.length_set]; exact hr, fun i hi => ?_⟩
  rw [List.length_set] at hi
  by_cases hij : j = i
  · subst hij
    simp only [List.getElem_set_self]
    exact ⟨hl, hn⟩
  · simp only [List.getElem_set_ne hij]
    refine ⟨(hce i hi).1, fun k hk => ?_⟩
    rw [ho _ (by omega)]
    exact (hce i hi).2 k hk
theorem if_len {A B : List (BitVec 8)} {x : Nat} (hA : A.length = 8) (hB : B.length = 8) : (pickL A B x).length = 8 := by unfold pickL; split <;> assumption
set_option maxHeartbeats 4000000 in
theorem pencode_any (b off cap : Nat) (A B : List (BitVec 8)) (w : World) (hB : BlksAt w (.slice (some ⟨b, off, none⟩) 2 cap) [A, B]) :
    Calls Tryz.prog 49 #[.slice (some ⟨b, off, none⟩) 2 cap] w fun e w' => ∃ g, e = .returned (.tuple #[.slice (some ⟨g, 0, none⟩) 3 3, .int .i64 0]) ∧ OutAt w' g [rowF A B (expG 0) [1, 0], rowF A B (expG 1) [1, 0], rowF A B (expG 2) [1, 0]] ∧ Below w.heap.size w w' := by
  have hbl : b < w.heap.size := by
    obtain ⟨_, _, _, hv, _, hbl, _⟩ := hB
    injection hv with hv
    injection hv with hv
    injection hv with h1
    rw [h1]; exact hbl
  have hA8 : A.length = 8 := by
    obtain ⟨_, _, _, hv, _, _, h⟩ := hB
    exact (h 0 (by simp)).1
  have hB8 : B.length = 8 := by
    obtain ⟨_, _, _, hv, _, _, h⟩ := hB
    exact (h 1 (by simp)).1
  have HBB := Lib.hid hB
  have HA8 := Lib.hid hA8
  have HB8 := Lib.hid hB8
  clear hB hA8 hB8
  refine (callsIn_wide (n := 5)).1 ?_
  refine callsIn_of_wp_marks Tryz.func49 rfl trivial ?_ rfl
  simp only [Tryz.ntmps49, List.size_toArray, List.length_cons, List.length_nil, Nat.reduceAdd, Nat.reduceSub, Array.replicate_succ, Array.replicate_zero, List.push_toArray, List.append_toArray, List.nil_append, List.cons_append]
  have hmk3 := mk3b
  gi_wp2
  have hO0 : OutAt (w.alloc (.cells (List.map encB zero8 ++ (List.map encB zero8 ++ List.map encB zero8)).toArray 76)) w.heap.size [zero8, zero8, zero8] := by
    refine ⟨_, BoxAt.new _ _ _, rfl, rfl, fun i hi => ?_⟩
    have h3 : i < 3 := hi
    rcases (by omega : i = 0 ∨ i = 1 ∨ i = 2) with rfl | rfl | rfl
    · exact ⟨rfl, fun j hj => by
        rcases (by omega : j = 0 ∨ j = 1 ∨ j = 2 ∨ j = 3 ∨ j = 4 ∨ j = 5 ∨ j = 6 ∨ j = 7) with rfl | rfl | rfl | rfl | rfl | rfl | rfl | rfl <;> rfl⟩
    · exact ⟨rfl, fun j hj => by
        rcases (by omega : j = 0 ∨ j = 1 ∨ j = 2 ∨ j = 3 ∨ j = 4 ∨ j = 5 ∨ j = 6 ∨ j = 7) with rfl | rfl | rfl | rfl | rfl | rfl | rfl | rfl <;> rfl⟩
    · exact ⟨rfl, fun j hj => by
        rcases (by omega : j = 0 ∨ j = 1 ∨ j = 2 ∨ j = 3 ∨ j = 4 ∨ j = 5 ∨ j = 6 ∨ j = 7) with rfl | rfl | rfl | rfl | rfl | rfl | rfl | rfl <;> rfl⟩
  have b4 := BoxAt.new (w.alloc (.cells (List.map encB zero8 ++ (List.map encB zero8 ++ List.map encB zero8)).toArray 76)) #[.slice (some ⟨w.heap.size, 0, none⟩) 3 3] 111
  rw [World.size_alloc] at b4
  have hB0 : Below w.heap.size w ((w.alloc (.cells (List.map encB zero8 ++ (List.map encB zero8 ++ List.map encB zero8)).toArray 76)).alloc (.cells #[.slice (some ⟨w.heap.size, 0, none⟩) 3 3] 111)) := (Ext.alloc _ _).trans (Ext.alloc _ _)
  have hO1 : OutAt ((w.alloc (.cells (List.map encB zero8 ++ (List.map encB zero8 ++ List.map encB zero8)).toArray 76)).alloc (.cells #[.slice (some ⟨w.heap.size, 0, none⟩) 3 3] 111)) w.heap.size [zero8, zero8, zero8] := by
    obtain ⟨cs, hb, r⟩ := hO0
    exact ⟨cs, hb.ext (Ext.alloc _ _), r⟩
  generalize ((w.alloc (.cells (List.map encB zero8 ++ (List.map encB zero8 ++ List.map encB zero8)).toArray 76)).alloc (.cells #[.slice (some ⟨w.heap.size, 0, none⟩) 3 3] 111)) = W0 at *
  obtain ⟨g, hg⟩ : ∃ g, w.heap.size = g := ⟨_, rfl⟩
  rw [hg] at b4 hO1 hbl hB0 ⊢
  have HG := Lib.hid hg
  have HO0 := Lib.hid hO1
  have H40 := Lib.hid b4
  have HB0 := Lib.hid hB0
  have HD0 := Lib.hid (DefAt.nil W0)
  clear hO0 hO1 b4 hB0 hmk3 hg
  refine wpIn_loop_rounds 4 ?_
  -- row 0
  rw [roundsIn_succ]
  gi_wp2_with (refine ⟨trivial, ?_⟩; gi_at_call 93; refine (callsIn_wide.2 (backward_any _ _ _ _)).mono ?_; rintro e w1 ⟨rfl, rfl⟩)
  have e0 : Ext W0 ((W0.alloc (.cells #[.int .i64 0] 3)).alloc (.cells #[.slice (some ⟨b, off, none⟩) 2 cap] 111)) := (Ext.alloc _ _).trans (Ext.alloc _ _)
  have h50 : BoxAt ((W0.alloc (.cells #[.int .i64 0] 3)).alloc (.cells #[.slice (some ⟨b, off, none⟩) 2 cap] 111)) W0.heap.size #[.int .i64 0] 3 := (BoxAt.new _ _ _).ext (Ext.alloc _ _)
  have hx0 := BoxAt.new (W0.alloc (.cells #[.int .i64 0] 3)) #[.slice (some ⟨b, off, none⟩) 2 cap] 111
  rw [World.size_alloc] at hx0
  have HOa0 := Lib.hid ((by obtain ⟨cs, hb, r⟩ := HO0.out; exact ⟨cs, hb.ext e0, r⟩ : OutAt _ g [zero8, zero8, zero8]))
  have H4a0 := Lib.hid (H40.out.ext e0)
  have HBa0 := Lib.hid (Below.trans HB0.out (Below.mono e0 (by have := HB0.out.size; have := HG.out; omega)))
  have HDa0 := Lib.hid (HD0.out.ext e0)
  have hsz0 : ((W0.alloc (.cells #[.int .i64 0] 3)).alloc (.cells #[.slice (some ⟨b, off, none⟩) 2 cap] 111)).heap.size = W0.heap.size + 1 + 1 := by simp
  have hgs0 : g + 1 < W0.heap.size := H40.out.lt
  generalize ((W0.alloc (.cells #[.int .i64 0] 3)).alloc (.cells #[.slice (some ⟨b, off, none⟩) 2 cap] 111)) = V0 at *
  obtain ⟨p0, hp0⟩ : ∃ p, W0.heap.size = p := ⟨_, rfl⟩
  obtain ⟨q0, hq0⟩ : ∃ p, p0 + 1 = p := ⟨_, rfl⟩
  rw [hp0] at h50 hx0 hsz0 hgs0 ⊢
  rw [hq0] at hx0 hsz0 ⊢
  have hlx0 : q0 < V0.heap.size := by omega
  have HSZ0 := Lib.hid hsz0
  have hWV0 : W0.heap.size < V0.heap.size := by omega
  have hbw0 : b < V0.heap.size := by omega
  have HP0 := Lib.hid hp0
  clear hp0 e0
  refine wpIn_rangeFunc_ownH rfl (by decide) (gf := 141) (lb := #[.pointer (some ⟨q0, 0, none⟩)]) rfl trivial (enters_of Tryz.func141 (by kernel_rfl) rfl)
    (back_stops (5 - 1) (by decide) q0 g b off cap A B V0 hlx0 hbw0 (by omega) (by omega) (hx0.cell 0 rfl) (HBB.out.below HBa0.out hbl))
    KeepX.trans (fun V l o o' hl _ _ _ => KeepX.put V l o' hl) (Below.refl _ _) (fun _ => rfl)
    (fun pre W => ((((OutAt W g [rowF A B (expG 0) pre, zero8, zero8] ∧ BoxAt W (g + 1) #[.slice (some ⟨g, 0, none⟩) 3 3] 111) ∧ BoxAt W p0 #[.int .i64 0] 3) ∧ Below g w W) ∧ V0.heap.size ≤ W.heap.size) ∧ DefAt [] W)
    (fun _ _ _ => False)
    (OwnFrom.and (OwnFrom.and (OwnFrom.and (OwnFrom.and (OwnFrom.and (out_own _ _) (box_own _)) (box_own _)) (ownFrom_below (by have := HG.out; omega) (by omega))) (size_own _ _)) (def_own (fun D hD => Nat.lt_trans (Nat.lt_of_lt_of_le (Array.getElem?_eq_some_iff.1 (HD0.out D hD)).1 (Nat.le_refl _)) hWV0)))
    (fun _ _ _ _ _ hs _ _ => hs)
    ⟨⟨⟨⟨⟨HOa0.out, H4a0.out⟩, h50⟩, HBa0.out⟩, Nat.le_refl _⟩, HDa0.out⟩
    (fun x a' W => ∃ Bx, q0 < Bx ∧ ArrAt W Bx (pickL A B x) ∧ a' = { tmps := #[.slice (some ⟨b, off, none⟩) 2 cap, undef, .slice none 0 0, .int .i64 0, .pointer (some ⟨g + 1, 0, none⟩), .pointer (some ⟨p0, 0, none⟩), undef, .pointer (some ⟨Bx, 0, none⟩), .slice (some ⟨b, off, none⟩) 2 cap, .int .i64 2, .bool false, .bool false, .slice (some ⟨b, off, none⟩) 2 cap, .int .i64 2, .bool false, .bool false, .slice (some ⟨g, 0, none⟩) 3 3, .slice (some ⟨g, 0, none⟩) 3 3, .int .i64 3, .int .i64 0, .bool true, .int .i64 0, .slice (some ⟨b, off, none⟩) 2 cap, .func (.func 141) #[] #[.pointer (some ⟨q0, 0, none⟩)], .int .i64 (x : Int), arrV (pickL A B x), undef, undef, undef, undef, undef, undef, undef, undef, undef, undef, undef, undef, undef], defers := [] })
    (fun x a' s X Y row hs hg hr => by obtain ⟨Bx, h1, h2, h3⟩ := hs; exact ⟨Bx, h1, arr_own (β := Unit) _ () X Y row h2 hg hr, h3⟩)
    ?assign ?body ?done ?stop
  case assign =>
    rintro l pre x W K ⟨⟨⟨⟨⟨⟨cs, hcb, hcr⟩, h4⟩, h5⟩, hB⟩, hVW⟩, hDf⟩ hK
    have hnb : ArrAt (W.alloc (.cells #[.int .u8 0, .int .u8 0, .int .u8 0, .int .u8 0, .int .u8 0, .int .u8 0, .int .u8 0, .int .u8 0] 76)) W.heap.size zero8 := ArrAt.new W zero8 rfl
    have hxl := if_len (x := x) HA8.out HB8.out
    have eW : Ext W (W.alloc (.cells #[.int .u8 0, .int .u8 0, .int .u8 0, .int .u8 0, .int .u8 0, .int .u8 0, .int .u8 0, .int .u8 0] 76)) := Ext.alloc _ _
    have hWs : q0 < W.heap.size := by omega
    gi_wp2_with (refine wpListIn_store_arr _ _ rfl rfl rfl rfl hnb hxl ?_; intro w7 hs7 hbl7 ha7 hz7)
    have e7 : Ext W w7 := hbl7 _ _ eW (Nat.le_refl _)
    exact hK _ _ ((keeps_ext e7).from _) (KeepX.ext e7 hVW) ⟨⟨⟨⟨⟨⟨cs, hcb.ext e7, hcr⟩, h4.ext e7⟩, h5.ext e7⟩, hbl7 _ _ (Below.trans hB (Below.mono eW (by have := hcb.lt; omega))) (by have := hcb.lt; omega)⟩, Nat.le_trans hVW e7.size⟩, hDf.ext e7⟩ ⟨W.heap.size, hWs, ha7, rfl⟩
  case body =>
    rintro l pre x a' W hl ⟨r, hr⟩ ⟨⟨⟨⟨⟨⟨cs, hcb, hcz, hcl, hce⟩, h4⟩, h5⟩, hB⟩, hVW⟩, hDf⟩ ⟨Bx, hBx, hAx, rfl⟩ hlt
    have hblk : BlksAt W (.slice (some ⟨g, 0, none⟩) 3 3) [rowF A B (expG 0) pre, zero8, zero8] := OutAt.blks ⟨cs, hcb, hcz, hcl, hce⟩
    have hldo : ∀ w', Ext W w' → (Instr.loadAt 76 (.pointer (some ⟨g, 0, none⟩))).run Tryz.prog w' = .ok (arrV (rowF A B (expG 0) pre)) w' := fun w' e => by
      have h := (hblk.ext e).load 0 (by simp)
      exact h
    have hldx : ∀ w', Ext W w' → (Instr.loadAt 76 (.pointer (some ⟨Bx, 0, none⟩))).run Tryz.prog w' = .ok (arrV (pickL A B x)) w' := fun w' e => (hAx.ext e).load
    have hxl := if_len (x := x) HA8.out HB8.out
    have hcl8 := rowF_len (c := expG 0) HA8.out HB8.out pre
    have hfl : (fusedG (pickL A B x) (rowF A B (expG 0) pre) (expG 0)).length = 8 := by rw [fusedG_length _ _ _ (by omega)]; exact hxl
    have c4 : W.cell? ⟨g + 1, 0, none⟩ = some (.slice (some ⟨g, 0, none⟩) 3 3) := h4.cell 0 rfl
    have c5 : W.cell? ⟨p0, 0, none⟩ = some (.int .i64 0) := h5.cell 0 rfl
    have l4 := h4.lt
    have l5 := h5.lt
    have lg := hcb.lt
    have HCE := Lib.hid hce
    have HBL := Lib.hid hB
    have HCB := Lib.hid hcb
    clear hce hB hblk hcb
    gi_wp2_with fail
    refine wpIn_region_exq [(0, true), (1, true), (2, true), (3, true), (4, true), (5, true), (6, true), (7, true), (8, false), (9, false), (10, true), (11, false)] (by kernel_rfl) (by kernel_rfl) (by kernel_rfl) ?_
    iterate 2 ((first
     | refine exq_move rfl rfl (by rfl) (by rfl) ?_
     | refine exq_assign rfl rfl (by rfl) (by rfl) ?_
     | refine exq_pick_t rfl rfl (by rfl) (by rfl) (by rfl) ?_
     | refine exq_pick_f rfl rfl (by rfl) (by rfl) (by rfl) ?_
     | (apply exq_take rfl (by rfl)
        · intro w' hS
          have hSc := hS.cells
          (try simp only [World.size_drew, World.cell?_drew] at hSc)
          go_simp
          (try simp (disch := omega) only [i64_id, u64_id, ↓IntWalk.iteOmega, Int.tdiv_eq_ediv_of_nonneg, Int.tmod_eq_emod_of_nonneg])
          try rfl)
     | refine exq_pass rfl (by rfl) ?_); simp only [Act.put, setZa, setZ0, setZ1])
    (refine exq_load 76 rfl rfl (by rfl) (by rfl) hldx ?_; simp only [Act.put, setZa, setZ0, setZ1])
    iterate 3 ((first
     | refine exq_move rfl rfl (by rfl) (by rfl) ?_
     | refine exq_assign rfl rfl (by rfl) (by rfl) ?_
     | refine exq_pick_t rfl rfl (by rfl) (by rfl) (by rfl) ?_
     | refine exq_pick_f rfl rfl (by rfl) (by rfl) (by rfl) ?_
     | (apply exq_take rfl (by rfl)
        · intro w' hS
          have hSc := hS.cells
          (try simp only [World.size_drew, World.cell?_drew] at hSc)
          go_simp
          (try simp (disch := omega) only [i64_id, u64_id, ↓IntWalk.iteOmega, Int.tdiv_eq_ediv_of_nonneg, Int.tmod_eq_emod_of_nonneg])
          try rfl)
     | refine exq_pass rfl (by rfl) ?_); simp only [Act.put, setZa, setZ0, setZ1])
    (refine exq_load 76 rfl rfl (by rfl) (by rfl) hldo ?_; simp only [Act.put, setZa, setZ0, setZ1])
    iterate 1 ((first
     | refine exq_move rfl rfl (by rfl) (by rfl) ?_
     | refine exq_assign rfl rfl (by rfl) (by rfl) ?_
     | refine exq_pick_t rfl rfl (by rfl) (by rfl) (by rfl) ?_
     | refine exq_pick_f rfl rfl (by rfl) (by rfl) (by rfl) ?_
     | (apply exq_take rfl (by rfl)
        · intro w' hS
          have hSc := hS.cells
          (try simp only [World.size_drew, World.cell?_drew] at hSc)
          go_simp
          (try simp (disch := omega) only [i64_id, u64_id, ↓IntWalk.iteOmega, Int.tdiv_eq_ediv_of_nonneg, Int.tmod_eq_emod_of_nonneg])
          try rfl)
     | refine exq_pass rfl (by rfl) ?_); simp only [Act.put, setZa, setZ0, setZ1])
    (refine exq_do rfl (by rfl) (fun K hK => ?_)
     go_simp
     go_at_call 95
     refine (exp_any 0 (by decide) _).mono ?_
     rintro e w' ⟨rfl, rfl⟩
     refine hK _ _ (by first | (with_reducible exact Ext.refl _) | (with_reducible exact Ext.drew _)) ?_
     clear hK K
     (try simp only [Act.put, setZa, setZ0, setZ1]))
    (refine exq_do rfl (by rfl) (fun K hK => ?_)
     go_simp
     go_at_call 94
     refine (pfused_any _ _ _ _ hxl hcl8).mono ?_
     rintro e w9 ⟨rfl, hx9⟩
     have e9 : Ext W w9 := by first | exact hx9 | exact (Ext.drew _).trans hx9
     refine hK _ _ (by first | exact hx9 | exact e9) ?_
     clear hK K
     (try simp only [Act.put, setZa, setZ0, setZ1]))
    iterate 1 ((first
     | refine exq_move rfl rfl (by rfl) (by rfl) ?_
     | refine exq_assign rfl rfl (by rfl) (by rfl) ?_
     | refine exq_pick_t rfl rfl (by rfl) (by rfl) (by rfl) ?_
     | refine exq_pick_f rfl rfl (by rfl) (by rfl) (by rfl) ?_
     | (apply exq_take rfl (by rfl)
        · intro w' hS
          have hSc := hS.cells
          (try simp only [World.size_drew, World.cell?_drew] at hSc)
          go_simp
          (try simp (disch := omega) only [i64_id, u64_id, ↓IntWalk.iteOmega, Int.tdiv_eq_ediv_of_nonneg, Int.tmod_eq_emod_of_nonneg])
          try rfl)
     | refine exq_pass rfl (by rfl) ?_); simp only [Act.put, setZa, setZ0, setZ1])
    (refine exq_last rfl (by rfl) (by kernel_rfl) (fun K hK => ?_)
     refine wp_of_list rfl ?_
     refine wpList_store_arrP _ _ rfl (by rfl) rfl rfl (HCB.out.ext e9) hfl (by rw [hcz]; decide) ?_
     intro w10 cs10 hs10 hb10 hbb10 hz10 hn10 ho10 hsz10
     refine hK _ _ ?_
     clear hK K
     (try simp only [Act.put]))
    refine ⟨⟨by rw [hsz10]; exact e9.size, fun k o hk ho hnc => ?_⟩, ⟨by rw [hsz10]; exact e9.size, fun k hk hkg => ?_⟩, ⟨⟨⟨⟨⟨?_, ?_⟩, ?_⟩, ?_⟩, ?_⟩, ?_⟩⟩
    · rw [hs10 k (by omega)]; exact (e9.block k (Array.getElem?_eq_some_iff.1 ho).1).trans ho
    · rw [hs10 k hkg]; exact e9.block k (by omega)
    · rw [rowF_snoc]; exact OutAt.put (j := 0) hcz hcl HCE.out hfl hbb10 hz10 hn10 ho10
    · exact (hs10 _ (by omega)).trans (h4.ext e9)
    · exact (hs10 _ (by omega)).trans (h5.ext e9)
    · exact hb10 _ _ (Below.trans HBL.out (Below.mono e9 (by omega))) (Nat.le_refl _)
    · rw [hsz10]; exact Nat.le_trans hVW e9.size
    · exact (hDf.ext e9).other hs10 (HCB.out.ext e9)
  case stop =>
    rintro D c pre W _ _ h _
    exact h.elim
  case done =>
    rintro D0 ys W1 hD0 rfl ⟨⟨⟨⟨⟨HOn, H4n⟩, H5n⟩, HBn⟩, hVn0⟩, hDn0⟩ hK0
    have HO1 := Lib.hid HOn
    have H41 := Lib.hid H4n
    have HB1 := Lib.hid HBn
    have HK0 := Lib.hid hK0
    have HD1 := Lib.hid (DefAt.cons hDn0 hK0)
    have hDg0 : g + 1 < D0 := by have := HSZ0.out; omega
    clear HOn H4n H5n HBn hK0 hDn0 h50 hx0 HOa0 H4a0 HBa0
    have hWn0 : D0 < W1.heap.size := (Array.getElem?_eq_some_iff.1 HK0.out).1
    gi_wp2
    -- row 1
    rw [roundsIn_succ]
    gi_wp2_with (refine ⟨trivial, ?_⟩; gi_at_call 93; refine (callsIn_wide.2 (backward_any _ _ _ _)).mono ?_; rintro e w1 ⟨rfl, rfl⟩)
    have e1 : Ext W1 ((W1.alloc (.cells #[.int .i64 1] 3)).alloc (.cells #[.slice (some ⟨b, off, none⟩) 2 cap] 111)) := (Ext.alloc _ _).trans (Ext.alloc _ _)
    have h51 : BoxAt ((W1.alloc (.cells #[.int .i64 1] 3)).alloc (.cells #[.slice (some ⟨b, off, none⟩) 2 cap] 111)) W1.heap.size #[.int .i64 1] 3 := (BoxAt.new _ _ _).ext (Ext.alloc _ _)
    have hx1 := BoxAt.new (W1.alloc (.cells #[.int .i64 1] 3)) #[.slice (some ⟨b, off, none⟩) 2 cap] 111
    rw [World.size_alloc] at hx1
    have HOa1 := Lib.hid ((by obtain ⟨cs, hb, r⟩ := HO1.out; exact ⟨cs, hb.ext e1, r⟩ : OutAt _ g [rowF A B (expG 0) [1, 0], zero8, zero8]))
    have H4a1 := Lib.hid (H41.out.ext e1)
    have HBa1 := Lib.hid (Below.trans HB1.out (Below.mono e1 (by have := HB1.out.size; have := HG.out; omega)))
    have HDa1 := Lib.hid (HD1.out.ext e1)
    have hsz1 : ((W1.alloc (.cells #[.int .i64 1] 3)).alloc (.cells #[.slice (some ⟨b, off, none⟩) 2 cap] 111)).heap.size = W1.heap.size + 1 + 1 := by simp
    have hgs1 : g + 1 < W1.heap.size := H41.out.lt
    generalize ((W1.alloc (.cells #[.int .i64 1] 3)).alloc (.cells #[.slice (some ⟨b, off, none⟩) 2 cap] 111)) = V1 at *
    obtain ⟨p1, hp1⟩ : ∃ p, W1.heap.size = p := ⟨_, rfl⟩
    obtain ⟨q1, hq1⟩ : ∃ p, p1 + 1 = p := ⟨_, rfl⟩
    rw [hp1] at h51 hx1 hsz1 hgs1 ⊢
    rw [hq1] at hx1 hsz1 ⊢
    have hlx1 : q1 < V1.heap.size := by omega
    have HSZ1 := Lib.hid hsz1
    have hWV1 : W1.heap.size < V1.heap.size := by omega
    have hbw1 : b < V1.heap.size := by omega
    have HP1 := Lib.hid hp1
    clear hp1 e1
    refine wpIn_rangeFunc_ownH rfl (by decide) (gf := 141) (lb := #[.pointer (some ⟨q1, 0, none⟩)]) rfl trivial (enters_of Tryz.func141 (by kernel_rfl) rfl)
      (back_stops (5 - 1) (by decide) q1 g b off cap A B V1 hlx1 hbw1 (by omega) (by omega) (hx1.cell 0 rfl) (HBB.out.below HBa1.out hbl))
      KeepX.trans (fun V l o o' hl _ _ _ => KeepX.put V l o' hl) (Below.refl _ _) (fun _ => rfl)
      (fun pre W => ((((OutAt W g [rowF A B (expG 0) [1, 0], rowF A B (expG 1) pre, zero8] ∧ BoxAt W (g + 1) #[.slice (some ⟨g, 0, none⟩) 3 3] 111) ∧ BoxAt W p1 #[.int .i64 1] 3) ∧ Below g w W) ∧ V1.heap.size ≤ W.heap.size) ∧ DefAt [D0] W)
      (fun _ _ _ => False)
      (OwnFrom.and (OwnFrom.and (OwnFrom.and (OwnFrom.and (OwnFrom.and (out_own _ _) (box_own _)) (box_own _)) (ownFrom_below (by have := HG.out; omega) (by omega))) (size_own _ _)) (def_own (fun D hD => Nat.lt_trans (Nat.lt_of_lt_of_le (Array.getElem?_eq_some_iff.1 (HD1.out D hD)).1 (Nat.le_refl _)) hWV1)))
      (fun _ _ _ _ _ hs _ _ => hs)
      ⟨⟨⟨⟨⟨HOa1.out, H4a1.out⟩, h51⟩, HBa1.out⟩, Nat.le_refl _⟩, HDa1.out⟩
      (fun x a' W => ∃ Bx, q1 < Bx ∧ ArrAt W Bx (pickL A B x) ∧ a' = { tmps := #[.slice (some ⟨b, off, none⟩) 2 cap, undef, .slice none 0 0, .int .i64 0, .pointer (some ⟨g + 1, 0, none⟩), .pointer (some ⟨p1, 0, none⟩), undef, .pointer (some ⟨Bx, 0, none⟩), .slice (some ⟨b, off, none⟩) 2 cap, .int .i64 2, .bool false, .bool false, .slice (some ⟨b, off, none⟩) 2 cap, .int .i64 2, .bool false, .bool false, .slice (some ⟨g, 0, none⟩) 3 3, .slice (some ⟨g, 0, none⟩) 3 3, .int .i64 3, .int .i64 1, .bool true, .int .i64 1, .slice (some ⟨b, off, none⟩) 2 cap, .func (.func 141) #[] #[.pointer (some ⟨q1, 0, none⟩)], .int .i64 (x : Int), arrV (pickL A B x), undef, undef, undef, undef, undef, undef, undef, undef, undef, undef, undef, .int .i64 1, undef], defers := [] })
      (fun x a' s X Y row hs hg hr => by obtain ⟨Bx, h1, h2, h3⟩ := hs; exact ⟨Bx, h1, arr_own (β := Unit) _ () X Y row h2 hg hr, h3⟩)
      ?assign ?body ?done ?stop
    case assign =>
      rintro l pre x W K ⟨⟨⟨⟨⟨⟨cs, hcb, hcr⟩, h4⟩, h5⟩, hB⟩, hVW⟩, hDf⟩ hK
      have hnb : ArrAt (W.alloc (.cells #[.int .u8 0, .int .u8 0, .int .u8 0, .int .u8 0, .int .u8 0, .int .u8 0, .int .u8 0, .int .u8 0] 76)) W.heap.size zero8 := ArrAt.new W zero8 rfl
      have hxl := if_len (x := x) HA8.out HB8.out
      have eW : Ext W (W.alloc (.cells #[.int .u8 0, .int .u8 0, .int .u8 0, .int .u8 0, .int .u8 0, .int .u8 0, .int .u8 0, .int .u8 0] 76)) := Ext.alloc _ _
      have hWs : q1 < W.heap.size := by omega
      gi_wp2_with (refine wpListIn_store_arr _ _ rfl rfl rfl rfl hnb hxl ?_; intro w7 hs7 hbl7 ha7 hz7)
      have e7 : Ext W w7 := hbl7 _ _ eW (Nat.le_refl _)
      exact hK _ _ ((keeps_ext e7).from _) (KeepX.ext e7 hVW) ⟨⟨⟨⟨⟨⟨cs, hcb.ext e7, hcr⟩, h4.ext e7⟩, h5.ext e7⟩, hbl7 _ _ (Below.trans hB (Below.mono eW (by have := hcb.lt; omega))) (by have := hcb.lt; omega)⟩, Nat.le_trans hVW e7.size⟩, hDf.ext e7⟩ ⟨W.heap.size, hWs, ha7, rfl⟩
    case body =>
      rintro l pre x a' W hl ⟨r, hr⟩ ⟨⟨⟨⟨⟨⟨cs, hcb, hcz, hcl, hce⟩, h4⟩, h5⟩, hB⟩, hVW⟩, hDf⟩ ⟨Bx, hBx, hAx, rfl⟩ hlt
      have hblk : BlksAt W (.slice (some ⟨g, 0, none⟩) 3 3) [rowF A B (expG 0) [1, 0], rowF A B (expG 1) pre, zero8] := OutAt.blks ⟨cs, hcb, hcz, hcl, hce⟩
      have hldo : ∀ w', Ext W w' → (Instr.loadAt 76 (.pointer (some ⟨g, 8, none⟩))).run Tryz.prog w' = .ok (arrV (rowF A B (expG 1) pre)) w' := fun w' e => by
        have h := (hblk.ext e).load 1 (by simp)
        exact h
      have hldx : ∀ w', Ext W w' → (Instr.loadAt 76 (.pointer (some ⟨Bx, 0, none⟩))).run Tryz.prog w' = .ok (arrV (pickL A B x)) w' := fun w' e => (hAx.ext e).load
      have hxl := if_len (x := x) HA8.out HB8.out
      have hcl8 := rowF_len (c := expG 1) HA8.out HB8.out pre
      have hfl : (fusedG (pickL A B x) (rowF A B (expG 1) pre) (expG 1)).length = 8 := by rw [fusedG_length _ _ _ (by omega)]; exact hxl
      have c4 : W.cell? ⟨g + 1, 0, none⟩ = some (.slice (some ⟨g, 0, none⟩) 3 3) := h4.cell 0 rfl
      have c5 : W.cell? ⟨p1, 0, none⟩ = some (.int .i64 1) := h5.cell 0 rfl
      have l4 := h4.lt
      have l5 := h5.lt
      have lg := hcb.lt
      have HCE := Lib.hid hce
      have HBL := Lib.hid hB
      have HCB := Lib.hid hcb
      clear hce hB hblk hcb
      gi_wp2_with fail
      refine wpIn_region_exq [(0, true), (1, true), (2, true), (3, true), (4, true), (5, true), (6, true), (7, true), (8, false), (9, false), (10, true), (11, false)] (by kernel_rfl) (by kernel_rfl) (by kernel_rfl) ?_
      iterate 2 ((first
       | refine exq_move rfl rfl (by rfl) (by rfl) ?_
       | refine exq_assign rfl rfl (by rfl) (by rfl) ?_
       | refine exq_pick_t rfl rfl (by rfl) (by rfl) (by rfl) ?_
       | refine exq_pick_f rfl rfl (by rfl) (by rfl) (by rfl) ?_
       | (apply exq_take rfl (by rfl)
          · intro w' hS
            have hSc := hS.cells
            (try simp only [World.size_drew, World.cell?_drew] at hSc)
            go_simp
            (try simp (disch := omega) only [i64_id, u64_id, ↓IntWalk.iteOmega, Int.tdiv_eq_ediv_of_nonneg, Int.tmod_eq_emod_of_nonneg])
            try rfl)
       | refine exq_pass rfl (by rfl) ?_); simp only [Act.put, setZa, setZ0, setZ1])
      (refine exq_load 76 rfl rfl (by rfl) (by rfl) hldx ?_; simp only [Act.put, setZa, setZ0, setZ1])
      iterate 3 ((first
       | refine exq_move rfl rfl (by rfl) (by rfl) ?_
       | refine exq_assign rfl rfl (by rfl) (by rfl) ?_
       | refine exq_pick_t rfl rfl (by rfl) (by rfl) (by rfl) ?_
       | refine exq_pick_f rfl rfl (by rfl) (by rfl) (by rfl) ?_
       | (apply exq_take rfl (by rfl)
          · intro w' hS
            have hSc := hS.cells
            (try simp only [World.size_drew, World.cell?_drew] at hSc)
            go_simp
            (try simp (disch := omega) only [i64_id, u64_id, ↓IntWalk.iteOmega, Int.tdiv_eq_ediv_of_nonneg, Int.tmod_eq_emod_of_nonneg])
            try rfl)
       | refine exq_pass rfl (by rfl) ?_); simp only [Act.put, setZa, setZ0, setZ1])
      (refine exq_load 76 rfl rfl (by rfl) (by rfl) hldo ?_; simp only [Act.put, setZa, setZ0, setZ1])
      iterate 1 ((first
       | refine exq_move rfl rfl (by rfl) (by rfl) ?_
       | refine exq_assign rfl rfl (by rfl) (by rfl) ?_
       | refine exq_pick_t rfl rfl (by rfl) (by rfl) (by rfl) ?_
       | refine exq_pick_f rfl rfl (by rfl) (by rfl) (by rfl) ?_
       | (apply exq_take rfl (by rfl)
          · intro w' hS
            have hSc := hS.cells
            (try simp only [World.size_drew, World.cell?_drew] at hSc)
            go_simp
            (try simp (disch := omega) only [i64_id, u64_id, ↓IntWalk.iteOmega, Int.tdiv_eq_ediv_of_nonneg, Int.tmod_eq_emod_of_nonneg])
            try rfl)
       | refine exq_pass rfl (by rfl) ?_); simp only [Act.put, setZa, setZ0, setZ1])
      (refine exq_do rfl (by rfl) (fun K hK => ?_)
       go_simp
       go_at_call 95
       refine (exp_any 1 (by decide) _).mono ?_
       rintro e w' ⟨rfl, rfl⟩
       refine hK _ _ (by first | (with_reducible exact Ext.refl _) | (with_reducible exact Ext.drew _)) ?_
       clear hK K
       (try simp only [Act.put, setZa, setZ0, setZ1]))
      (refine exq_do rfl (by rfl) (fun K hK => ?_)
       go_simp
       go_at_call 94
       refine (pfused_any _ _ _ _ hxl hcl8).mono ?_
       rintro e w9 ⟨rfl, hx9⟩
       have e9 : Ext W w9 := by first | exact hx9 | exact (Ext.drew _).trans hx9
       refine hK _ _ (by first | exact hx9 | exact e9) ?_
       clear hK K
       (try simp only [Act.put, setZa, setZ0, setZ1]))
      iterate 1 ((first
       | refine exq_move rfl rfl (by rfl) (by rfl) ?_
       | refine exq_assign rfl rfl (by rfl) (by rfl) ?_
       | refine exq_pick_t rfl rfl (by rfl) (by rfl) (by rfl) ?_
       | refine exq_pick_f rfl rfl (by rfl) (by rfl) (by rfl) ?_
       | (apply exq_take rfl (by rfl)
          · intro w' hS
            have hSc := hS.cells
            (try simp only [World.size_drew, World.cell?_drew] at hSc)
            go_simp
            (try simp (disch := omega) only [i64_id, u64_id, ↓IntWalk.iteOmega, Int.tdiv_eq_ediv_of_nonneg, Int.tmod_eq_emod_of_nonneg])
            try rfl)
       | refine exq_pass rfl (by rfl) ?_); simp only [Act.put, setZa, setZ0, setZ1])
      (refine exq_last rfl (by rfl) (by kernel_rfl) (fun K hK => ?_)
       refine wp_of_list rfl ?_
       refine wpList_store_arrP _ _ rfl (by rfl) rfl rfl (HCB.out.ext e9) hfl (by rw [hcz]; decide) ?_
       intro w10 cs10 hs10 hb10 hbb10 hz10 hn10 ho10 hsz10
       refine hK _ _ ?_
       clear hK K
       (try simp only [Act.put]))
      refine ⟨⟨by rw [hsz10]; exact e9.size, fun k o hk ho hnc => ?_⟩, ⟨by rw [hsz10]; exact e9.size, fun k hk hkg => ?_⟩, ⟨⟨⟨⟨⟨?_, ?_⟩, ?_⟩, ?_⟩, ?_⟩, ?_⟩⟩
      · rw [hs10 k (by omega)]; exact (e9.block k (Array.getElem?_eq_some_iff.1 ho).1).trans ho
      · rw [hs10 k hkg]; exact e9.block k (by omega)
      · rw [rowF_snoc]; exact OutAt.put (j := 1) hcz hcl HCE.out hfl hbb10 hz10 hn10 ho10
      · exact (hs10 _ (by omega)).trans (h4.ext e9)
      · exact (hs10 _ (by omega)).trans (h5.ext e9)
      · exact hb10 _ _ (Below.trans HBL.out (Below.mono e9 (by omega))) (Nat.le_refl _)
      · rw [hsz10]; exact Nat.le_trans hVW e9.size
      · exact (hDf.ext e9).other hs10 (HCB.out.ext e9)
    case stop =>
      rintro D c pre W _ _ h _
      exact h.elim
    case done =>
      rintro D1 ys W2 hD1 rfl ⟨⟨⟨⟨⟨HOn, H4n⟩, H5n⟩, HBn⟩, hVn1⟩, hDn1⟩ hK1
      have HO2 := Lib.hid HOn
      have H42 := Lib.hid H4n
      have HB2 := Lib.hid HBn
      have HK1 := Lib.hid hK1
      have HD2 := Lib.hid (DefAt.cons hDn1 hK1)
      have hDg1 : g + 1 < D1 := by have := HSZ1.out; omega
      clear HOn H4n H5n HBn hK1 hDn1 h51 hx1 HOa1 H4a1 HBa1
      have hWn1 : D1 < W2.heap.size := (Array.getElem?_eq_some_iff.1 HK1.out).1
      gi_wp2
      -- row 2
      rw [roundsIn_succ]
      gi_wp2_with (refine ⟨trivial, ?_⟩; gi_at_call 93; refine (callsIn_wide.2 (backward_any _ _ _ _)).mono ?_; rintro e w1 ⟨rfl, rfl⟩)
      have e2 : Ext W2 ((W2.alloc (.cells #[.int .i64 2] 3)).alloc (.cells #[.slice (some ⟨b, off, none⟩) 2 cap] 111)) := (Ext.alloc _ _).trans (Ext.alloc _ _)
      have h52 : BoxAt ((W2.alloc (.cells #[.int .i64 2] 3)).alloc (.cells #[.slice (some ⟨b, off, none⟩) 2 cap] 111)) W2.heap.size #[.int .i64 2] 3 := (BoxAt.new _ _ _).ext (Ext.alloc _ _)
      have hx2 := BoxAt.new (W2.alloc (.cells #[.int .i64 2] 3)) #[.slice (some ⟨b, off, none⟩) 2 cap] 111
      rw [World.size_alloc] at hx2
      have HOa2 := Lib.hid ((by obtain ⟨cs, hb, r⟩ := HO2.out; exact ⟨cs, hb.ext e2, r⟩ : OutAt _ g [rowF A B (expG 0) [1, 0], rowF A B (expG 1) [1, 0], zero8]))
      have H4a2 := Lib.hid (H42.out.ext e2)
      have HBa2 := Lib.hid (Below.trans HB2.out (Below.mono e2 (by have := HB2.out.size; have := HG.out; omega)))
      have HDa2 := Lib.hid (HD2.out.ext e2)
      have hsz2 : ((W2.alloc (.cells #[.int .i64 2] 3)).alloc (.cells #[.slice (some ⟨b, off, none⟩) 2 cap] 111)).heap.size = W2.heap.size + 1 + 1 := by simp
      have hgs2 : g + 1 < W2.heap.size := H42.out.lt
      generalize ((W2.alloc (.cells #[.int .i64 2] 3)).alloc (.cells #[.slice (some ⟨b, off, none⟩) 2 cap] 111)) = V2 at *
      obtain ⟨p2, hp2⟩ : ∃ p, W2.heap.size = p := ⟨_, rfl⟩
      obtain ⟨q2, hq2⟩ : ∃ p, p2 + 1 = p := ⟨_, rfl⟩
      rw [hp2] at h52 hx2 hsz2 hgs2 ⊢
      rw [hq2] at hx2 hsz2 ⊢
      have hlx2 : q2 < V2.heap.size := by omega
      have HSZ2 := Lib.hid hsz2
      have hWV2 : W2.heap.size < V2.heap.size := by omega
      have hbw2 : b < V2.heap.size := by omega
      have HP2 := Lib.hid hp2
      clear hp2 e2
      refine wpIn_rangeFunc_ownH rfl (by decide) (gf := 141) (lb := #[.pointer (some ⟨q2, 0, none⟩)]) rfl trivial (enters_of Tryz.func141 (by kernel_rfl) rfl)
        (back_stops (5 - 1) (by decide) q2 g b off cap A B V2 hlx2 hbw2 (by omega) (by omega) (hx2.cell 0 rfl) (HBB.out.below HBa2.out hbl))
        KeepX.trans (fun V l o o' hl _ _ _ => KeepX.put V l o' hl) (Below.refl _ _) (fun _ => rfl)
        (fun pre W => ((((OutAt W g [rowF A B (expG 0) [1, 0], rowF A B (expG 1) [1, 0], rowF A B (expG 2) pre] ∧ BoxAt W (g + 1) #[.slice (some ⟨g, 0, none⟩) 3 3] 111) ∧ BoxAt W p2 #[.int .i64 2] 3) ∧ Below g w W) ∧ V2.heap.size ≤ W.heap.size) ∧ DefAt [D1, D0] W)
        (fun _ _ _ => False)
        (OwnFrom.and (OwnFrom.and (OwnFrom.and (OwnFrom.and (OwnFrom.and (out_own _ _) (box_own _)) (box_own _)) (ownFrom_below (by have := HG.out; omega) (by omega))) (size_own _ _)) (def_own (fun D hD => Nat.lt_trans (Nat.lt_of_lt_of_le (Array.getElem?_eq_some_iff.1 (HD2.out D hD)).1 (Nat.le_refl _)) hWV2)))
        (fun _ _ _ _ _ hs _ _ => hs)
        ⟨⟨⟨⟨⟨HOa2.out, H4a2.out⟩, h52⟩, HBa2.out⟩, Nat.le_refl _⟩, HDa2.out⟩
        (fun x a' W => ∃ Bx, q2 < Bx ∧ ArrAt W Bx (pickL A B x) ∧ a' = { tmps := #[.slice (some ⟨b, off, none⟩) 2 cap, undef, .slice none 0 0, .int .i64 0, .pointer (some ⟨g + 1, 0, none⟩), .pointer (some ⟨p2, 0, none⟩), undef, .pointer (some ⟨Bx, 0, none⟩), .slice (some ⟨b, off, none⟩) 2 cap, .int .i64 2, .bool false, .bool false, .slice (some ⟨b, off, none⟩) 2 cap, .int .i64 2, .bool false, .bool false, .slice (some ⟨g, 0, none⟩) 3 3, .slice (some ⟨g, 0, none⟩) 3 3, .int .i64 3, .int .i64 2, .bool true, .int .i64 2, .slice (some ⟨b, off, none⟩) 2 cap, .func (.func 141) #[] #[.pointer (some ⟨q2, 0, none⟩)], .int .i64 (x : Int), arrV (pickL A B x), undef, undef, undef, undef, undef, undef, undef, undef, undef, undef, undef, .int .i64 2, undef], defers := [] })
        (fun x a' s X Y row hs hg hr => by obtain ⟨Bx, h1, h2, h3⟩ := hs; exact ⟨Bx, h1, arr_own (β := Unit) _ () X Y row h2 hg hr, h3⟩)
        ?assign ?body ?done ?stop
      case assign =>
        rintro l pre x W K ⟨⟨⟨⟨⟨⟨cs, hcb, hcr⟩, h4⟩, h5⟩, hB⟩, hVW⟩, hDf⟩ hK
        have hnb : ArrAt (W.alloc (.cells #[.int .u8 0, .int .u8 0, .int .u8 0, .int .u8 0, .int .u8 0, .int .u8 0, .int .u8 0, .int .u8 0] 76)) W.heap.size zero8 := ArrAt.new W zero8 rfl
        have hxl := if_len (x := x) HA8.out HB8.out
        have eW : Ext W (W.alloc (.cells #[.int .u8 0, .int .u8 0, .int .u8 0, .int .u8 0, .int .u8 0, .int .u8 0, .int .u8 0, .int .u8 0] 76)) := Ext.alloc _ _
        have hWs : q2 < W.heap.size := by omega
        gi_wp2_with (refine wpListIn_store_arr _ _ rfl rfl rfl rfl hnb hxl ?_; intro w7 hs7 hbl7 ha7 hz7)
        have e7 : Ext W w7 := hbl7 _ _ eW (Nat.le_refl _)
        exact hK _ _ ((keeps_ext e7).from _) (KeepX.ext e7 hVW) ⟨⟨⟨⟨⟨⟨cs, hcb.ext e7, hcr⟩, h4.ext e7⟩, h5.ext e7⟩, hbl7 _ _ (Below.trans hB (Below.mono eW (by have := hcb.lt; omega))) (by have := hcb.lt; omega)⟩, Nat.le_trans hVW e7.size⟩, hDf.ext e7⟩ ⟨W.heap.size, hWs, ha7, rfl⟩
      case body =>
        rintro l pre x a' W hl ⟨r, hr⟩ ⟨⟨⟨⟨⟨⟨cs, hcb, hcz, hcl, hce⟩, h4⟩, h5⟩, hB⟩, hVW⟩, hDf⟩ ⟨Bx, hBx, hAx, rfl⟩ hlt
        have hblk : BlksAt W (.slice (some ⟨g, 0, none⟩) 3 3) [rowF A B (expG 0) [1, 0], rowF A B (expG 1) [1, 0], rowF A B (expG 2) pre] := OutAt.blks ⟨cs, hcb, hcz, hcl, hce⟩
        have hldo : ∀ w', Ext W w' → (Instr.loadAt 76 (.pointer (some ⟨g, 16, none⟩))).run Tryz.prog w' = .ok (arrV (rowF A B (expG 2) pre)) w' := fun w' e => by
          have h := (hblk.ext e).load 2 (by simp)
          exact h
        have hldx : ∀ w', Ext W w' → (Instr.loadAt 76 (.pointer (some ⟨Bx, 0, none⟩))).run Tryz.prog w' = .ok (arrV (pickL A B x)) w' := fun w' e => (hAx.ext e).load
        have hxl := if_len (x := x) HA8.out HB8.out
        have hcl8 := rowF_len (c := expG 2) HA8.out HB8.out pre
        have hfl : (fusedG (pickL A B x) (rowF A B (expG 2) pre) (expG 2)).length = 8 := by rw [fusedG_length _ _ _ (by omega)]; exact hxl
        have c4 : W.cell? ⟨g + 1, 0, none⟩ = some (.slice (some ⟨g, 0, none⟩) 3 3) := h4.cell 0 rfl
        have c5 : W.cell? ⟨p2, 0, none⟩ = some (.int .i64 2) := h5.cell 0 rfl
        have l4 := h4.lt
        have l5 := h5.lt
        have lg := hcb.lt
        have HCE := Lib.hid hce
        have HBL := Lib.hid hB
        have HCB := Lib.hid hcb
        clear hce hB hblk hcb
        gi_wp2_with fail
        refine wpIn_region_exq [(0, true), (1, true), (2, true), (3, true), (4, true), (5, true), (6, true), (7, true), (8, false), (9, false), (10, true), (11, false)] (by kernel_rfl) (by kernel_rfl) (by kernel_rfl) ?_
        iterate 2 ((first
         | refine exq_move rfl rfl (by rfl) (by rfl) ?_
         | refine exq_assign rfl rfl (by rfl) (by rfl) ?_
         | refine exq_pick_t rfl rfl (by rfl) (by rfl) (by rfl) ?_
         | refine exq_pick_f rfl rfl (by rfl) (by rfl) (by rfl) ?_
         | (apply exq_take rfl (by rfl)
            · intro w' hS
              have hSc := hS.cells
              (try simp only [World.size_drew, World.cell?_drew] at hSc)
              go_simp
              (try simp (disch := omega) only [i64_id, u64_id, ↓IntWalk.iteOmega, Int.tdiv_eq_ediv_of_nonneg, Int.tmod_eq_emod_of_nonneg])
              try rfl)
         | refine exq_pass rfl (by rfl) ?_); simp only [Act.put, setZa, setZ0, setZ1])
        (refine exq_load 76 rfl rfl (by rfl) (by rfl) hldx ?_; simp only [Act.put, setZa, setZ0, setZ1])
        iterate 3 ((first
         | refine exq_move rfl rfl (by rfl) (by rfl) ?_
         | refine exq_assign rfl rfl (by rfl) (by rfl) ?_
         | refine exq_pick_t rfl rfl (by rfl) (by rfl) (by rfl) ?_
         | refine exq_pick_f rfl rfl (by rfl) (by rfl) (by rfl) ?_
         | (apply exq_take rfl (by rfl)
            · intro w' hS
              have hSc := hS.cells
              (try simp only [World.size_drew, World.cell?_drew] at hSc)
              go_simp
              (try simp (disch := omega) only [i64_id, u64_id, ↓IntWalk.iteOmega, Int.tdiv_eq_ediv_of_nonneg, Int.tmod_eq_emod_of_nonneg])
              try rfl)
         | refine exq_pass rfl (by rfl) ?_); simp only [Act.put, setZa, setZ0, setZ1])
        (refine exq_load 76 rfl rfl (by rfl) (by rfl) hldo ?_; simp only [Act.put, setZa, setZ0, setZ1])
        iterate 1 ((first
         | refine exq_move rfl rfl (by rfl) (by rfl) ?_
         | refine exq_assign rfl rfl (by rfl) (by rfl) ?_
         | refine exq_pick_t rfl rfl (by rfl) (by rfl) (by rfl) ?_
         | refine exq_pick_f rfl rfl (by rfl) (by rfl) (by rfl) ?_
         | (apply exq_take rfl (by rfl)
            · intro w' hS
              have hSc := hS.cells
              (try simp only [World.size_drew, World.cell?_drew] at hSc)
              go_simp
              (try simp (disch := omega) only [i64_id, u64_id, ↓IntWalk.iteOmega, Int.tdiv_eq_ediv_of_nonneg, Int.tmod_eq_emod_of_nonneg])
              try rfl)
         | refine exq_pass rfl (by rfl) ?_); simp only [Act.put, setZa, setZ0, setZ1])
        (refine exq_do rfl (by rfl) (fun K hK => ?_)
         go_simp
         go_at_call 95
         refine (exp_any 2 (by decide) _).mono ?_
         rintro e w' ⟨rfl, rfl⟩
         refine hK _ _ (by first | (with_reducible exact Ext.refl _) | (with_reducible exact Ext.drew _)) ?_
         clear hK K
         (try simp only [Act.put, setZa, setZ0, setZ1]))
        (refine exq_do rfl (by rfl) (fun K hK => ?_)
         go_simp
         go_at_call 94
         refine (pfused_any _ _ _ _ hxl hcl8).mono ?_
         rintro e w9 ⟨rfl, hx9⟩
         have e9 : Ext W w9 := by first | exact hx9 | exact (Ext.drew _).trans hx9
         refine hK _ _ (by first | exact hx9 | exact e9) ?_
         clear hK K
         (try simp only [Act.put, setZa, setZ0, setZ1]))
        iterate 1 ((first
         | refine exq_move rfl rfl (by rfl) (by rfl) ?_
         | refine exq_assign rfl rfl (by rfl) (by rfl) ?_
         | refine exq_pick_t rfl rfl (by rfl) (by rfl) (by rfl) ?_
         | refine exq_pick_f rfl rfl (by rfl) (by rfl) (by rfl) ?_
         | (apply exq_take rfl (by rfl)
            · intro w' hS
              have hSc := hS.cells
              (try simp only [World.size_drew, World.cell?_drew] at hSc)
              go_simp
              (try simp (disch := omega) only [i64_id, u64_id, ↓IntWalk.iteOmega, Int.tdiv_eq_ediv_of_nonneg, Int.tmod_eq_emod_of_nonneg])
              try rfl)
         | refine exq_pass rfl (by rfl) ?_); simp only [Act.put, setZa, setZ0, setZ1])
        (refine exq_last rfl (by rfl) (by kernel_rfl) (fun K hK => ?_)
         refine wp_of_list rfl ?_
         refine wpList_store_arrP _ _ rfl (by rfl) rfl rfl (HCB.out.ext e9) hfl (by rw [hcz]; decide) ?_
         intro w10 cs10 hs10 hb10 hbb10 hz10 hn10 ho10 hsz10
         refine hK _ _ ?_
         clear hK K
         (try simp only [Act.put]))
        refine ⟨⟨by rw [hsz10]; exact e9.size, fun k o hk ho hnc => ?_⟩, ⟨by rw [hsz10]; exact e9.size, fun k hk hkg => ?_⟩, ⟨⟨⟨⟨⟨?_, ?_⟩, ?_⟩, ?_⟩, ?_⟩, ?_⟩⟩
        · rw [hs10 k (by omega)]; exact (e9.block k (Array.getElem?_eq_some_iff.1 ho).1).trans ho
        · rw [hs10 k hkg]; exact e9.block k (by omega)
        · rw [rowF_snoc]; exact OutAt.put (j := 2) hcz hcl HCE.out hfl hbb10 hz10 hn10 ho10
        · exact (hs10 _ (by omega)).trans (h4.ext e9)
        · exact (hs10 _ (by omega)).trans (h5.ext e9)
        · exact hb10 _ _ (Below.trans HBL.out (Below.mono e9 (by omega))) (Nat.le_refl _)
        · rw [hsz10]; exact Nat.le_trans hVW e9.size
        · exact (hDf.ext e9).other hs10 (HCB.out.ext e9)
      case stop =>
        rintro D c pre W _ _ h _
        exact h.elim
      case done =>
        rintro D2 ys W3 hD2 rfl ⟨⟨⟨⟨⟨HOn, H4n⟩, H5n⟩, HBn⟩, hVn2⟩, hDn2⟩ hK2
        have HO3 := Lib.hid HOn
        have H43 := Lib.hid H4n
        have HB3 := Lib.hid HBn
        have HK2 := Lib.hid hK2
        have HD3 := Lib.hid (DefAt.cons hDn2 hK2)
        have hDg2 : g + 1 < D2 := by have := HSZ2.out; omega
        clear HOn H4n H5n HBn hK2 hDn2 h52 hx2 HOa2 H4a2 HBa2
        have hWn2 : D2 < W3.heap.size := (Array.getElem?_eq_some_iff.1 HK2.out).1
        gi_wp2
        rw [roundsIn_succ]
        have c4 : W3.cell? ⟨g + 1, 0, none⟩ = some (.slice (some ⟨g, 0, none⟩) 3 3) := H43.out.cell 0 rfl
        have l4 := H43.out.lt
        have n01 : D0 ≠ D1 := by have := HP1.out; omega
        have n02 : D0 ≠ D2 := by have := HP1.out; have := HP2.out; omega
        have n12 : D1 ≠ D2 := by have := HP2.out; omega
        have k2 : W3.heap[D2]? = some (.deferred (some [])) := HD3.out D2 (by simp)
        have k1 : (W3.putObj D2 (.deferred none)).heap[D1]? = some (.deferred (some [])) := (World.putObj_heap_other n12).trans (HD3.out D1 (by simp))
        have k0 : ((W3.putObj D2 (.deferred none)).putObj D1 (.deferred none)).heap[D0]? = some (.deferred (some [])) := (World.putObj_heap_other n01).trans ((World.putObj_heap_other n02).trans (HD3.out D0 (by simp)))
        have K2 := Lib.hid k2
        have K1 := Lib.hid k1
        have K0 := Lib.hid k0
        clear k0 k1 k2
        gi_wp2
        refine ⟨by simp, .inl ⟨_, _, rfl, run_takeDeferred K2.out, ?_⟩⟩
        refine ⟨by simp, .inl ⟨_, _, rfl, run_takeDeferred K1.out, ?_⟩⟩
        refine ⟨by simp, .inl ⟨_, _, rfl, run_takeDeferred K0.out, ?_⟩⟩
        obtain ⟨cs, hcb, hcr⟩ := HO3.out
        have hcg := hcb.lt
        have hgD : ∀ D, W3.heap[D]? = some (.deferred (some [])) → g ≠ D := fun D hD e => by
          subst e
          rw [show W3.heap[g]? = _ from hcb] at hD
          cases hD
        refine ⟨_, results_tmp2 rfl _ _ _, g, rfl, ⟨cs, ?_, hcr⟩, ?_⟩
        · exact (World.putObj_heap_other (hgD _ (HD3.out D0 (by simp)))).trans ((World.putObj_heap_other (hgD _ (HD3.out D1 (by simp)))).trans ((World.putObj_heap_other (hgD _ (HD3.out D2 (by simp)))).trans hcb))
        · have hw := HG.out
          rw [hw]
          exact below_putD (below_putD (below_putD HB3.out (by omega)) (by omega)) (by omega)
end Go.Proofs.YtjabgpejmnpamaaGreatDoor

namespace Go.Proofs.YtjabgpejmnpamaaGreatDoor
open Go Go.RowKit
section
variable {F : Fence} {n : Nat} {P : Program}
def SeqE {α : Type} (F : Fence) (n : Nat) (P : Program) (g : Nat) (lb : Array Value) (encs : α → Array Value) (Kp : World → World → Prop) (E : α → World → Prop) (S : List α → Prop) (N : Nat) (w : World) : Prop :=
  ∀ (l : Nat) (J : List α → World → Prop) (W : World), Below w.heap.size w W → w.heap.size + 2 ≤ W.heap.size → OwnFrom W.heap.size J →
    (∀ pre x W1, pre.length < N → J pre W1 → E x W1 → YieldAt F (n - 1) P l (encs x) W1 fun e W' => e = .returned (.bool true) ∧ J (pre ++ [x]) W' ∧ Kp W1 W') →
    J [] W →
    CallsIn F n P g (#[.func (.yield l) #[] #[]] ++ lb) W fun e W' => (∃ v, e = .returned v) ∧ ∃ xs, S xs ∧ J xs W'
theorem wpIn_rangeFunc_ownE {α : Type} {g : Operand} {ps : Array Tmp} {assign body : Code} {Q : Exit → Act → World → Prop} {a : Act} {w : World}
    (hro : F.round = none) (h1 : 1 ≤ n) {gf : Nat} {lb : Array Value} (hg : a.eval g = .func (.func gf) #[] lb) (hFg : F.fn gf) (eg : ∀ args w, (callFunc gf args).run P w = .ok (.enter gf args) w)
    {encs : α → Array Value} {Kp : World → World → Prop} {E : α → World → Prop} {S : List α → Prop} {N : Nat} {w0 : World} (hseq : SeqE F (n - 1) P gf lb encs Kp E S N w0)
    (hKt : ∀ {A B C : World}, Kp A B → Kp B C → Kp A C) (hKb : ∀ (W : World) (o o' : Obj), W.heap[w.heap.size + 1]? = some o → o.isCells = false → Kp W (W.putObj (w.heap.size + 1) o')) (hb0 : Below w0.heap.size w0 w) (hps : ∀ x, (encs x).size = ps.size)
    (hE : ∀ x, OwnFrom w.heap.size (fun (_ : Unit) W => E x W))
    (I : List α → World → Prop) (hI : OwnFrom w.heap.size I) (h0 : I [] w) (a₁ : α → Act)
    (hassign : ∀ (l : Nat) (x : α) (W : World) (K : Act → World → Prop), K (a₁ x) W →
      assign.wpIn (F.inRound l) (n - 1 - 1) P (Exit.then K (fun _ _ _ => False)) { tmps := (ps.zip (encs x)).foldl (fun t (p, v) => t.setIfInBounds p v) a.tmps, defers := [] } W)
    (hbody : ∀ (l : Nat) (pre : List α) (x : α) (W : World), pre.length < N → I pre W → E x W →
      body.wpIn (F.inRound l) (n - 1 - 1) P (fun e _ W' => e = .normal ∧ KeepsFrom w.heap.size W W' ∧ Kp W W' ∧ I (pre ++ [x]) W') (a₁ x) W)
    (hdone : ∀ (D : Nat) (xs : List α) (W : World), w.heap.size ≤ D → S xs → I xs W → W.heap[D]? = some (.deferred (some [])) → Q .normal { a with defers := { target := .collected D, args := #[] } :: a.defers } W) :
    (Code.rangeFunc g ps assign body).wpIn F n P Q a w := by
  refine wpIn_rangeFunc fun fn hfn => ?_
  rw [hro]
  -- the loop's record lies at B + 1, the block for deferred calls at B
  obtain ⟨B, hB⟩ : ∃ B, w.heap.size = B := ⟨_, rfl⟩
  let rec_ : LoopState → Option Code → Loop := fun st pe => { state := st, pending := pe, fn, tmps := a.tmps, params := ps, assign, body, defers := B }
  obtain ⟨W1, hW1⟩ : ∃ W1, (w.alloc (.deferred (some []))).alloc (.loop (rec_ .ready none)) = W1 := ⟨_, rfl⟩
  have hs1 : W1.heap.size = B + 2 := by rw [← hW1, ← hB]; simp
  have hL : W1.heap[B + 1]? = some (.loop (rec_ .ready none)) := by
    have := World.alloc_heap_new (w.alloc (.deferred (some []))) (.loop (rec_ .ready none))
    rwa [World.size_alloc, hB, hW1] at this
  have hD : W1.heap[B]? = some (.deferred (some [])) := by
    rw [← hW1]
    refine (Below.heap_alloc _ _ _ (by simp [hB])).trans ?_
    rw [← hB]
    exact World.alloc_heap_new w _
  have hI1 : I [] W1 := by rw [← hW1]; exact hI.alloc _ (hI.alloc _ h0)
  have hb1 : Below w0.heap.size w0 W1 := by
    rw [← hW1]
    exact hb0.trans ((((Below.refl _ w).alloc (Nat.le_refl _) _).alloc (by simp) _).mono hb0.size)
  refine ⟨B + 1, [{ target := .collected B, args := #[] }], W1, { target := .fn (.func gf) lb, args := #[.func (.yield (B + 1)) #[] #[]] }, W1, gf,
    #[.func (.yield (B + 1)) #[] #[]] ++ lb, W1, ?_, ?_, ?_, ?_, fun _ => h1, ?_⟩
  · rw [← hW1]
    show _ = Result.ok _ ((w.alloc (.deferred (some []))).alloc (.loop { state := .ready, pending := none, fn, tmps := a.tmps, params := ps, assign, body, defers := B }))
    rw [← hB]
    exact run_enterLoop_outer _ _ _ _ _
  · simp only [resolve, hg]
    simp [go_sem]
  · intro f' hf'
    simp [Target.leads] at hf'
    subst hf'
    exact hFg
  · simp [invoke, go_sem, eg]
  -- the caller's invariant with the book-keeping beside it
  have keep : ∀ {X Y : World} {row : Option Nat} {k : Nat} {o : Obj}, k ≤ B + 1 → X.grownBy Y row → (∀ r, row = some r → W1.heap.size ≤ r ∧ ∃ o : Obj, X.heap[r]? = some o ∧ o.isCells = false) → X.heap[k]? = some o → Y.heap[k]? = some o :=
    fun hkB hgr hr hk => (hgr.block _ (Array.getElem?_eq_some_iff.1 hk).1 (fun e => by have := (hr _ e.symm).1; omega)).trans hk
  refine (hseq (B + 1) (fun pre W => I pre W ∧ W.heap[B + 1]? = some (.loop (rec_ .ready none)) ∧ W.heap[B]? = some (.deferred (some []))) W1 hb1 (by have := hb0.size; omega)
    (fun s X Y row hs hgr hr => ⟨hI s X Y row hs.1 hgr (fun r e => by obtain ⟨h1, o, ho, hw⟩ := hr r e; exact ⟨by omega, o, ho, hw⟩), keep (Nat.le_refl _) hgr hr hs.2.1, keep (by omega) hgr hr hs.2.2⟩)
    ?_ ⟨hI1, hL, hD⟩).mono ?_
  · rintro pre x W hlen ⟨hi, hl, hk⟩ he
    have hlt : B + 1 < W.heap.size := (Array.getElem?_eq_some_iff.1 hl).1
    refine ⟨fn, _, assign, body, run_yield (P := P) (args := encs x) hl (hps x), roundIn_of_wpIn hfn (hassign _ x W _ ?_)⟩
    -- the round begins
    obtain ⟨V, hV⟩ : ∃ V, W.putObj (B + 1) (.loop { rec_ .ready none with state := .busy }) = V := ⟨_, rfl⟩
    have hl2 : V.heap[B + 1]? = some (.loop { rec_ .ready none with state := .busy }) := by rw [← hV]; exact World.putObj_heap_same hlt
    have hk2 : V.heap[B]? = some (.deferred (some [])) := by rw [← hV]; exact (World.putObj_heap_other (by omega)).trans hk
    have hkp : Kp W V := by rw [← hV, ← hB]; exact hKb _ _ _ (by rw [hB]; exact hl) rfl
    have hi2 : I pre V := by rw [← hV]; exact hI.putObj _ hi (by omega) hl rfl
    have he2 : E x V := by rw [← hV]; exact (hE x).putObj (s := ()) _ he (by omega) hl rfl
    refine ⟨V, by rw [← hV]; exact run_beginRound hl rfl, ?_⟩
    refine wpIn_mono (hbody _ pre x V hlen hi2 he2) ?_
    rintro e a3 W3 ⟨rfl, hk3, hkp3, hi3⟩
    have hl3 := hk3.same _ _ (by omega) hl2 rfl
    have hd3 := hk3.same _ _ (by omega) hk2 rfl
    refine ⟨_, _, run_endRound (P := P) none hl3, rfl, ⟨?_, ?_, ?_⟩, ?_⟩
    · exact hI.putObj _ hi3 (by omega) hl3 rfl
    · exact World.putObj_heap_same (Array.getElem?_eq_some_iff.1 hl3).1
    · exact (World.putObj_heap_other (by omega)).trans hd3
    · exact hKt hkp (hKt hkp3 (by rw [← hB]; exact hKb _ _ _ (by rw [hB]; exact hl3) rfl))
  · rintro e W2 ⟨⟨v, rfl⟩, xs, hS, hi, hl, hk⟩
    refine ⟨none, _, run_endLoop (P := P) hl (by simp [rec_]), ?_⟩
    exact hdone _ xs _ (by omega) hS (hI.putObj _ hi (by omega) hl rfl) ((World.putObj_heap_other (by omega)).trans hk)
theorem leaves_marks {fn : Func} {tmps : Array Value} {R : Ending → World → Prop} : ∀ (Ds : List Nat) (W : World), (∀ D, D ∈ Ds → W.heap[D]? = some (.deferred (some []))) → Ds.Nodup →
    (∀ W', (∀ (J : World → Prop), (∀ V D o, J V → D ∈ Ds → V.heap[D]? = some (.deferred (some [])) → J (V.putObj D o)) → J W → J W') → LeavesIn F n P fn tmps R [] .returning W') →
    LeavesInM F n P fn tmps R (Ds.map fun D => { target := .collected D, args := #[] }) .returning W
  | [], W, _, _, h => h W (fun _ _ hW => hW)
  | D :: Ds, W, hD, hn, h => by
    rw [List.nodup_cons] at hn
    have h0 := hD D (by simp)
    refine ⟨by simp, .inl ⟨D, _, rfl, run_takeDeferred h0, ?_⟩⟩
    refine leaves_marks Ds _ (fun E hE => ?_) hn.2 (fun W' hW' => h W' (fun J hJ hW => hW' J (fun V E o hV hE hh => hJ V E o hV (by simp [hE]) hh) (hJ W D _ hW (by simp) h0)))
    exact (World.putObj_heap_other (fun e => hn.1 (by rw [← e]; exact hE))).trans (hD E (by simp [hE]))
end
end Go.Proofs.YtjabgpejmnpamaaGreatDoor

namespace Go.Proofs.YtjabgpejmnpamaaGreatDoor
open Go.RowKit
set_option maxRecDepth 100000
abbrev OwnI (w : World) (B : Nat) (v : Value) (l : List Int) : Prop := OwnG encI 3 w B v l
set_option maxHeartbeats 1000000 in
theorem cloneI_any (v : Value) (l : List Int) (w : World) (hl : l.length ≤ 100000) (h : SliceAt encI w v l) :
    Calls Tryz.prog 207 #[v] w fun e w' => ∃ v', e = .returned v' ∧ OwnI w' w.heap.size v' l ∧ Below w.heap.size w w' := by
  obtain ⟨i0, hi, hz0, hz1, hz2⟩ := info_parts infoN
  have HA := Lib.hid h
  obtain ⟨ad, cap, rfl, hca, h⟩ := h
  cases ad with
  | none =>
    have hl0 : l = [] ∧ cap = 0 := by
      rcases h with ⟨h1, h2⟩ | ⟨_, _, h1, _⟩
      · exact ⟨h1, h2 rfl⟩
      · cases h1
    obtain ⟨rfl, rfl⟩ := hl0
    clear h
    go_enter Tryz.func207, Tryz.ntmps207
    have hq := fun (w : World) => Lib.run_eql_slice_nil (P := Tryz.prog) w 40 3 none 0 0 0 0 Tryz.underlying40
    go_wp2
    go_ret
    exact ⟨_, rfl, OwnG.nil, Below.refl _ _⟩
  | some ad =>
    clear h
    have hq := fun (w : World) => Lib.run_eql_slice_nil (P := Tryz.prog) w 40 3 (some ad) l.length cap 0 0 Tryz.underlying40
    go_enter Tryz.func207, Tryz.ntmps207
    go_wp2_with (at_builtin; refine wpList_append_slice (enc := encI) (fun _ => rfl) rfl (.tmp 5) (.tmp 6) 40 rfl w.heap.size 3 i0 (.int .i64 0) 8 Tryz.underlying40 hi hz0 hz1 hz2 rfl _ 0 [] rfl (World.ownsRow_lit w #[] 0 (Nat.le_refl _) (by decide) rfl) _ l rfl (HA.out.ext (Ext.alloc _ _)) (by unfold maxLen; omega) (by omega) (by simp) ?_; intro v1 w1 hown1 hgrow1; simp only [Nat.zero_add, List.nil_append] at hown1; have hx1 : Below w.heap.size w w1 := Below.grown ((Below.refl _ w).alloc (Nat.le_refl _) _) hgrow1 (by simp) (fun k hk => by cases hk; exact Nat.le_refl _))
    go_ret
    exact ⟨_, rfl, hown1, hx1⟩
theorem dcount_any (w : World) : Calls Tryz.prog 153 #[.int .i64 5, .int .i64 1] w fun e w' => e = .returned (.int .i64 5) ∧ w = w' := by
  go_enter Tryz.func153, Tryz.ntmps153
  go_wp2
  refine wp_loop_rounds 2 ?_
  rw [rounds_succ]
  go_wp2
  rw [rounds_succ]
  go_wp2
  go_ret
  exact ⟨rfl, rfl⟩
abbrev setsW (w : World) (v : Value) : World := ((w.alloc (.cells #[v] 40)).alloc (.cells #[.int .i64 5] 3)).alloc (.cells #[.int .i64 4] 3)
abbrev setsV (w : World) : Array Value := #[.pointer (some ⟨w.heap.size, 0, none⟩), .pointer (some ⟨w.heap.size + 1 + 1, 0, none⟩), .pointer (some ⟨w.heap.size + 1, 0, none⟩)]
theorem sets_any (a : Option Addr) (n c : Nat) (w : World) :
    Calls Tryz.prog 154 #[.slice a n c, .int .i64 5, .int .i64 4] w fun e w' => e = .returned (.func (.func 206) #[] (setsV w)) ∧ w' = setsW w (.slice a n c) := by
  go_enter Tryz.func154, Tryz.ntmps154
  go_wp2_with fail
  go_ret
  exact ⟨rfl, rfl⟩
end Go.Proofs.YtjabgpejmnpamaaGreatDoor
