/-
  Part 16 of the proof.
-/
import Derived.Test.YtjabgpejmnpamaaGreatDoorY14
import Derived.Test.YtjabgpejmnpamaaGreatDoorY15
set_option linter.unusedVariables false
namespace Go.Proofs.YtjabgpejmnpamaaGreatDoor
open Go.RowKit
set_option maxRecDepth 100000
attribute [local go_sem] wrapI_ub wrap8_ub unsigned8 xor_ub
abbrev litI (i : Int) : Obj := .cells #[encI i] 3
abbrev litB (p : List (BitVec 8)) : Obj := .cells (p.map encB).toArray 76
structure S2 (w W : World) (vf : Value) (F : List Int) (vb : Value) (L : List (List (BitVec 8))) : Prop where
  own : OwnG encI 3 W w.heap.size vf F
  bk : OwnBk W w.heap.size vb L
  ext : Ext w W
variable {w W : World} {vf vb : Value} {F : List Int} {L : List (List (BitVec 8))}
theorem S2.le (h : S2 w W vf F vb L) : w.heap.size ≤ W.heap.size := h.ext.size
theorem S2.alloc (h : S2 w W vf F vb L) (o : Obj) : S2 w (W.alloc o) vf F vb L := ⟨h.own.ext (Ext.alloc _ _), h.bk.ext (Ext.alloc _ _), h.ext.trans (Ext.alloc _ _)⟩
theorem S2.more {W' : World} (h : S2 w W vf F vb L) (e : Ext W W') : S2 w W' vf F vb L := ⟨h.own.ext e, h.bk.ext e, h.ext.trans e⟩
theorem S2.newI (h : S2 w W vf F vb L) (i : Int) : BoxAt (W.alloc (.cells #[encI i] 3)) W.heap.size #[encI i] 3 := BoxAt.new _ _ _
theorem S2.newB (h : S2 w W vf F vb L) (p : List (BitVec 8)) : BoxAt (W.alloc (.cells (p.map encB).toArray 76)) W.heap.size (p.map encB).toArray 76 := BoxAt.new _ _ _
theorem bk_not_box {g : Nat} {cs : Array Value} {t : TypeId} (h : OwnBk W w.heap.size vb L) (hb : BoxAt W g cs t) (ht : t ≠ 76) : vb.ownBlock ≠ some g := by
  intro hg
  rcases h.2 with ⟨h1, _⟩ | ⟨q, cap, cur, h1, _, h3, _⟩
  · rw [h1] at hg; simp [Value.ownBlock] at hg
  · rw [h1] at hg
    simp [Value.ownBlock] at hg
    subst hg
    rw [show W.heap[q]? = _ from hb] at h3
    injection h3 with h3
    injection h3 with _ h3
    exact ht h3
theorem S2.apart (h : S2 w W vf F vb L) : vf.ownBlock ≠ vb.ownBlock ∨ vf.ownBlock = none := by
  cases hv : vf.ownBlock with
  | none => exact .inr rfl
  | some g =>
    refine .inl (fun he => ?_)
    rcases h.own.2 with ⟨h1, _⟩ | ⟨q, cap, cur, h1, _, h3, _⟩
    · rw [h1] at hv; simp [Value.ownBlock] at hv
    · rw [h1] at hv
      simp [Value.ownBlock] at hv
      subst hv
      have hq : W.heap[q]? = some (.cells cur 3 (0, 0)) := h3
      exact bk_not_box h.bk (t := 3) hq (by decide) he.symm
theorem apart_sym {a b : Option Nat} (h : a ≠ b ∨ a = none) : b = none ∨ b ≠ a := by
  cases b with
  | none => exact .inl rfl
  | some g =>
    rcases h with h | h
    · exact .inr h.symm
    · exact .inr (by rw [h]; simp)
theorem apart_two {a b : Option Nat} (h : a ≠ b ∨ a = none) : a = none ∨ a ≠ b := h.symm
theorem S2.appI {v' : Value} {w' : World} {i : Int} (h : S2 w W vf F vb L) (ho : w'.ownsRow w.heap.size 3 1 v' (F.length + 1) (F.map encI ++ [encI i])) (hg : W.grownBy w' vf.ownBlock) : S2 w w' v' (F ++ [i]) vb L :=
  ⟨OwnG.snoc (enc := encI) (x := i) ho, World.ownsRow.kept h.bk hg (apart_sym h.apart), h.ext.grown hg h.le (fun q hq => (h.own.lt q hq).1)⟩
theorem S2.appB {v' : Value} {w' : World} {l : List (BitVec 8)} (h : S2 w W vf F vb L) (ho : w'.ownsRow w.heap.size 76 8 v' (L.length + 1) (L.flatMap bkCells ++ bkCells l)) (hg : W.grownBy w' vb.ownBlock) : S2 w w' vf F v' (L ++ [l]) :=
  ⟨World.ownsRow.kept h.own hg (apart_two h.apart), OwnBk.snoc ho, h.ext.grown hg h.le (fun q hq => (h.bk.lt q hq).1)⟩
theorem bk_row {w : World} {B : Nat} {v : Value} {ls : List (List (BitVec 8))} (h : OwnBk w B v ls) : w.ownsRow B 76 8 v ls.length (ls.flatMap bkCells) := h
theorem box_news {g : Nat} {l : List (BitVec 8)} (hl : l.length = 8) (h : BoxAt W g (l.map encB).toArray 76) : ∀ j u, (bkCells l)[j]? = some u → W.cell? ((⟨g, 0, none⟩ : Addr).add j) = some u := by
  intro j u hu
  rw [add_plain, Nat.zero_add]
  rw [bkCells_eq hl] at hu
  exact h.cell j (by simpa using hu)
theorem build_arr {P : List (BitVec 8)} (h : P.length = 8) (w' : World) : (Instr.buildSlice 111 1 #[(0, arrV P)]).run Tryz.prog w' = .ok (.slice (some ⟨w'.heap.size, 0, none⟩) 1 1) (w'.alloc (litB P)) := by
  obtain ⟨x0, x1, x2, x3, x4, x5, x6, x7, rfl⟩ := arr_cases h
  go_simp
  try rfl
theorem wp_build {o : Oper} {a : Act} {w w' : World} {K : Act → World → Prop} {Q : Exit → Act → World → Prop} (ty : TypeId) (n : Nat) (x : Operand) (ho : o.op = .buildSlice ty n #[(0, x)]) {v p : Value} (hx : a.eval x = p)
    (h : (Instr.buildSlice ty n #[(0, p)]).run Tryz.prog w = .ok v w') (k : K (a.put o.dst v) w') : o.wp Tryz.prog a w K Q := by
  unfold Oper.wp execOp
  simp only [ho, List.map_toArray, List.map_cons, List.map_nil, hx, Sem.run_bind, Sem.run_pure, Result.andThen_ok, h]
  exact k
theorem wpList_store_arrO {ops : Array Oper} {rest : List Oper} {o : Oper} {a : Act} {w w0 : World} {Q : Exit → Act → World → Prop} (x y : Operand) (ho : o.op = .store 76 x y)
    (hw : Region.wanted o (yielded ops a.tmps) = true) {g f : Nat} {cs : Array Value} {t : TypeId} {l : List (BitVec 8)} (hx : a.eval x = .pointer (some ⟨g, f, none⟩)) (hy : a.eval y = arrV l) (hb : BoxAt w g cs t) (hl : l.length = 8) (hf : f + 8 ≤ cs.size)
    (he : Ext w0 w) (hg : w0.heap.size ≤ g)
    (h : ∀ w' cs', Ext w0 w' → BoxAt w' g cs' t → cs'.size = cs.size → (∀ j, j < 8 → cs'[f + j]? = some (encB (l.getD j 0#8))) → w'.heap.size = w.heap.size → wpList Tryz.prog ops Q rest (a.put o.dst undef) w') : wpList Tryz.prog ops Q (o :: rest) a w := by
  refine wpList_step fun K hK => ?_
  rw [if_pos hw]
  have hs : ((l.map encB).toArray).size = 8 := by simp [hl]
  have hrun := run_storeAt_mid (P := Tryz.prog) w g f 76 (l.map encB).toArray (fun j hj => ⟨by
    obtain ⟨v, hv⟩ : ∃ v, cs[f + j]? = some v := ⟨_, Array.getElem?_eq_getElem (by omega)⟩
    rw [hb.cell _ hv]; rfl, hb.free _⟩) (by rw [hs]; kernel_rfl) (by simp [Value.oneCell'])
  obtain ⟨cs', h1, h2, h3, h5, h4⟩ := arrc_box (l.map encB) f w cs hb (by simp [hl]; omega)
  unfold Oper.wp execOp
  simp only [ho, hx, hy, Sem.run_bind, Sem.run_pure, Result.andThen_ok, hrun]
  refine hK _ _ (h _ cs' (arrc_ext hg _ _ _ he) h1 h2 (fun j hj => ?_) (arrc_size _ _ _))
  rw [h4 j (by simp [hl]; exact hj), List.getElem?_map, List.getElem?_eq_getElem (by omega), getD_in (by omega)]
  rfl
theorem wts0 : wtsL 0 = [(wtsL 0).getD 0 0#8, (wtsL 0).getD 1 0#8] := by decide +kernel
theorem wts1 : wtsL 1 = [(wtsL 1).getD 0 0#8, (wtsL 1).getD 1 0#8] := by decide +kernel
theorem comb_len {p q : BitVec 8} {A B : List (BitVec 8)} (hA : A.length = 8) (hB : B.length = 8) : (combL p q A B).length = 8 := by
  unfold combL
  have h1 : (fusedG zero8 A p).length = 8 := by rw [fusedG_length _ _ _ (by rw [hA]; rfl)]; rfl
  rw [fusedG_length _ _ _ (by omega)]; exact h1
def fromL (k : Nat) : List Int := if k ≤ 2 then [] else if k = 3 then [2] else [2, 3]
def blkL (P0 P1 : List (BitVec 8)) (k : Nat) : List (List (BitVec 8)) := if k ≤ 2 then [] else if k = 3 then [P0] else [P0, P1]
set_option maxHeartbeats 8000000 in
theorem decode_any (vp vd : Value) (D0 D1 P0 P1 P2 : List (BitVec 8)) (w : World) (hp : BlksAt w vp [D0, D1, P0, P1, P2]) (hd : SliceAt Value.bool w vd [true, true, false, false, false]) :
    Calls Tryz.prog 50 #[vp, vd] w fun e w' => ∃ g c, e = .returned (.tuple #[.slice (some ⟨g, 0, none⟩) 5 c, .int .i64 0]) ∧ g < w'.heap.size ∧
      (∀ j, j < 8 → w'.cell? ⟨g, 8 + j, none⟩ = some (encB ((combL ((wtsL 1).getD 0 0#8) ((wtsL 1).getD 1 0#8) P0 P1).getD j 0#8))) ∧ Ext w w' := by
  obtain ⟨i0, hi, hi0, hi1, hi2⟩ := info_parts infoN
  obtain ⟨k0, hk, hk0, hk1, hk2⟩ := info_parts infoK
  obtain ⟨pb, po, pc, rfl, hpc, hpl, hpe⟩ := id hp
  have hP0 : P0.length = 8 := (hpe 2 (by simp)).1
  have hP1 : P1.length = 8 := (hpe 3 (by simp)).1
  obtain ⟨da, dc, rfl⟩ := hd.shape
  obtain ⟨db, dO, rfl, hdl, hd0⟩ := hd.get 0 (by simp)
  obtain ⟨_, _, he, _, hd1⟩ := hd.get 1 (by simp)
  injection he with he
  injection he with he1 he2
  subst he1 he2
  obtain ⟨_, _, he, _, hd2⟩ := hd.get 2 (by simp)
  injection he with he
  injection he with he1 he2
  subst he1 he2
  obtain ⟨_, _, he, _, hd3⟩ := hd.get 3 (by simp)
  injection he with he
  injection he with he1 he2
  subst he1 he2
  obtain ⟨_, _, he, _, hd4⟩ := hd.get 4 (by simp)
  injection he with he
  injection he with he1 he2
  subst he1 he2
  simp only [List.getElem_cons_zero, List.getElem_cons_succ, Nat.add_zero, List.length_cons, List.length_nil, Nat.reduceAdd] at hd0 hd1 hd2 hd3 hd4 hp hpc ⊢
  have HPB := Lib.hid hp
  have HP0 := Lib.hid hP0
  have HP1 := Lib.hid hP1
  clear hd hp hpe hP0 hP1
  go_enter Tryz.func50, Tryz.ntmps50
  go_wp2_with (go_at_call 96; refine (possible_any 5 (by decide) (by decide) _).mono ?_; rintro e w' ⟨rfl, rfl⟩)
  have HS0 : Hid (S2 w w (.slice none 0 0) (fromL 0) (.slice none 0 0) (blkL P0 P1 0)) := ⟨OwnG.nil, OwnBk.nil _ _, Ext.refl _⟩
  go_loopw [7, 8, 29] (fun f b it wr => ∃ k : Nat, k ≤ 5 ∧ it = .int .i64 k ∧ Hid (S2 w wr f (fromL k) b (blkL P0 P1 k))) (fun _ _ it _ => 5 - (intOf it).toNat)
  case atStart => exact ⟨0, by omega, rfl, HS0⟩
  case round =>
    obtain ⟨k, hk5, rfl, HSH⟩ := hrel
    rcases (by omega : k = 0 ∨ k = 1 ∨ k = 2 ∨ k = 3 ∨ k = 4 ∨ k = 5) with rfl | rfl | rfl | rfl | rfl | rfl
    · have hcd := (Below.cell HSH.out.ext (p := ⟨db, dO, none⟩) hdl).trans hd0
      have hdl2 := Nat.lt_of_lt_of_le hdl HSH.out.ext.size
      go_wp2_with fail
      go_roundw
      case rel => exact ⟨1, by omega, by go_num, HSH⟩
      case measure => simp [intOf]
    · have hcd := (Below.cell HSH.out.ext (p := ⟨db, dO + 1, none⟩) hdl).trans hd1
      have hdl2 := Nat.lt_of_lt_of_le hdl HSH.out.ext.size
      go_wp2_with fail
      go_roundw
      case rel => exact ⟨2, by omega, by go_num, HSH⟩
      case measure => simp [intOf]
    · -- round 2
      have HS := HSH.out
      obtain ⟨af, cf, rfl⟩ := HS.own.shape
      obtain ⟨ab, cb, rfl⟩ := HS.bk.shape
      simp only [fromL, blkL, Nat.reduceLeDiff, ↓reduceIte, List.length_nil] at HS ⊢
      have hld : ∀ w', Ext w w' → (Instr.loadAt 76 (.pointer (some ⟨pb, po + 16, none⟩))).run Tryz.prog w' = .ok (arrV P0) w' := fun w' e => by
        have h := (HPB.out.ext e).load 2 (by simp)
        exact h
      have hcd := (Below.cell HS.ext (p := ⟨db, dO + 2, none⟩) hdl).trans hd2
      have hpl2 := Nat.lt_of_lt_of_le hpl HS.ext.size
      have hdl2 := Nat.lt_of_lt_of_le hdl HS.ext.size
      go_wp2_with fail
      refine wp_region_seT w HS.ext (.take 0 (.take 1 (.take 4 (.take 5 (.take 6 (.take 7 (.take 8 (.two 2 9 (.two 3 9 (.one 9 (.one 10 (.take 11 (.take 12 .done)))) (.one 3 (.one 10 (.take 11 (.take 12 .done))))) (.one 2 (.one 3 (.one 10 (.take 11 (.take 12 .done))))))))))))) (by kernel_rfl) (by kernel_rfl) (fun wc hxc => ?_)
      have HS := HS.more hxc
      iterate 6 ((first
       | refine extT_move rfl rfl (by rfl) (by rfl) ?_
       | refine extT_assign rfl rfl (by rfl) (by rfl) ?_
       | refine extT_pick_t rfl rfl (by rfl) (by rfl) (by rfl) ?_
       | refine extT_pick_f rfl rfl (by rfl) (by rfl) (by rfl) ?_
       | (apply extT_take rfl (by rfl)
          · intro w' hS
            have hSc := hS.cells
            (try simp only [World.size_drew, World.cell?_drew] at hSc)
            go_simp
            (try simp (disch := omega) only [i64_id, u64_id, ↓IntWalk.iteOmega, Int.tdiv_eq_ediv_of_nonneg, Int.tmod_eq_emod_of_nonneg])
            try rfl)
       | refine extT_pass rfl (by rfl) ?_); simp only [Act.put, setZa, setZ0, setZ1])
      (refine extT_load 76 rfl rfl (by rfl) (by rfl) hld ?_; simp only [Act.put, setZa, setZ0, setZ1])
      refine extT_twoB rfl rfl (by rfl) (by rfl) (fun K hK => ?_) (fun K hK => ?_)
      go_simp
      refine hK _ _ (HS.alloc _).ext ?_
      clear hK K
      (try simp only [Act.put, setZa, setZ0, setZ1])
      have HI := HS.newI 2
      (try simp only [World.size_alloc] at HI)
      skip
      have HS := HS.alloc (.cells #[encI 2] 3)
      refine extT_twoB rfl rfl (by rfl) (by rfl) (fun K hK => ?_) (fun K hK => ?_)
      skip
      refine wp_of_list rfl ?_
      refine wpList_append_one rfl _ _ _ rfl w.heap.size 3 i0 (.int .i64 0) 8 Tryz.underlying40 hi hi0 hi1 hi2 rfl _ _ _ rfl HS.own _ (encI 2) rfl rfl (HI.cell 0 rfl) (by unfold maxLen; simp) (by simp) HS.le ?_
      intro v6 w6 ho6 hg6 _
      skip
      have HS := HS.appI ho6 hg6
      clear ho6 hg6 HI
      refine hK _ _ HS.ext ?_
      clear hK K
      (try simp only [Act.put, setZa, setZ0, setZ1])
      refine extT_doB rfl (by rfl) (fun K hK => ?_)
      refine wp_build 111 1 _ rfl rfl (build_arr HP0.out _) ?_
      refine hK _ _ (HS.alloc _).ext ?_
      clear hK K
      (try simp only [Act.put, setZa, setZ0, setZ1])
      have HB := HS.newB P0
      skip
      have HS := HS.alloc (.cells (P0.map encB).toArray 76)
      refine extT_doB rfl (by rfl) (fun K hK => ?_)
      skip
      refine wp_of_list rfl ?_
      refine wpList_append_own_at _ rfl _ _ _ rfl w.heap.size 76 k0 _ 8 8 Tryz.underlying111 hk hk0 hk1 hk2 rfl (by decide) _ _ _ rfl (bk_row HS.bk) _ 1 1 (bkCells P0) rfl (bkCells_len _) (box_news HP0.out HB) (bk_one _) (by unfold maxLen; simp) (by simp) HS.le ?_
      intro v7 w7 ho7 hg7 _ _
      skip
      have HS := HS.appB ho7 hg7
      clear ho7 hg7 HB
      refine hK _ _ HS.ext ?_
      clear hK K
      (try simp only [Act.put, setZa, setZ0, setZ1])
      iterate 2 ((first
       | refine extT_move rfl rfl (by rfl) (by rfl) ?_
       | refine extT_assign rfl rfl (by rfl) (by rfl) ?_
       | refine extT_pick_t rfl rfl (by rfl) (by rfl) (by rfl) ?_
       | refine extT_pick_f rfl rfl (by rfl) (by rfl) (by rfl) ?_
       | (apply extT_take rfl (by rfl)
          · intro w' hS
            have hSc := hS.cells
            (try simp only [World.size_drew, World.cell?_drew] at hSc)
            go_simp
            (try simp (disch := omega) only [i64_id, u64_id, ↓IntWalk.iteOmega, Int.tdiv_eq_ediv_of_nonneg, Int.tmod_eq_emod_of_nonneg])
            try rfl)
       | refine extT_pass rfl (by rfl) ?_); simp only [Act.put, setZa, setZ0, setZ1])
      refine extT_nil ?_
      skip
      rotate_left
      refine wp_build 111 1 _ rfl rfl (build_arr HP0.out _) ?_
      refine hK _ _ (HS.alloc _).ext ?_
      clear hK K
      (try simp only [Act.put, setZa, setZ0, setZ1])
      have HB := HS.newB P0
      have HI := HI.ext (Ext.alloc _ (litB P0))
      have HS := HS.alloc (.cells (P0.map encB).toArray 76)
      refine extT_doB rfl (by rfl) (fun K hK => ?_)
      skip
      refine wp_of_list rfl ?_
      refine wpList_append_one rfl _ _ _ rfl w.heap.size 3 i0 (.int .i64 0) 8 Tryz.underlying40 hi hi0 hi1 hi2 rfl _ _ _ rfl HS.own _ (encI 2) rfl rfl (HI.cell 0 rfl) (by unfold maxLen; simp) (by simp) HS.le ?_
      intro v6 w6 ho6 hg6 _
      have HB := HB.grown hg6 (fun h => HS.own.not_box HB (by decide) h.symm)
      have HS := HS.appI ho6 hg6
      clear ho6 hg6 HI
      refine hK _ _ HS.ext ?_
      clear hK K
      (try simp only [Act.put, setZa, setZ0, setZ1])
      refine extT_doB rfl (by rfl) (fun K hK => ?_)
      skip
      refine wp_of_list rfl ?_
      refine wpList_append_own_at _ rfl _ _ _ rfl w.heap.size 76 k0 _ 8 8 Tryz.underlying111 hk hk0 hk1 hk2 rfl (by decide) _ _ _ rfl (bk_row HS.bk) _ 1 1 (bkCells P0) rfl (bkCells_len _) (box_news HP0.out HB) (bk_one _) (by unfold maxLen; simp) (by simp) HS.le ?_
      intro v7 w7 ho7 hg7 _ _
      skip
      have HS := HS.appB ho7 hg7
      clear ho7 hg7 HB
      refine hK _ _ HS.ext ?_
      clear hK K
      (try simp only [Act.put, setZa, setZ0, setZ1])
      iterate 2 ((first
       | refine extT_move rfl rfl (by rfl) (by rfl) ?_
       | refine extT_assign rfl rfl (by rfl) (by rfl) ?_
       | refine extT_pick_t rfl rfl (by rfl) (by rfl) (by rfl) ?_
       | refine extT_pick_f rfl rfl (by rfl) (by rfl) (by rfl) ?_
       | (apply extT_take rfl (by rfl)
          · intro w' hS
            have hSc := hS.cells
            (try simp only [World.size_drew, World.cell?_drew] at hSc)
            go_simp
            (try simp (disch := omega) only [i64_id, u64_id, ↓IntWalk.iteOmega, Int.tdiv_eq_ediv_of_nonneg, Int.tmod_eq_emod_of_nonneg])
            try rfl)
       | refine extT_pass rfl (by rfl) ?_); simp only [Act.put, setZa, setZ0, setZ1])
      refine extT_nil ?_
      skip
      rotate_left
      refine wp_build 111 1 _ rfl rfl (build_arr HP0.out _) ?_
      refine hK _ _ (HS.alloc _).ext ?_
      clear hK K
      (try simp only [Act.put, setZa, setZ0, setZ1])
      have HB := HS.newB P0
      skip
      have HS := HS.alloc (.cells (P0.map encB).toArray 76)
      refine extT_doB rfl (by rfl) (fun K hK => ?_)
      go_simp
      refine hK _ _ (HS.alloc _).ext ?_
      clear hK K
      (try simp only [Act.put, setZa, setZ0, setZ1])
      have HI := HS.newI 2
      (try simp only [World.size_alloc] at HI)
      have HB := HB.ext (Ext.alloc _ (litI 2))
      have HS := HS.alloc (.cells #[encI 2] 3)
      refine extT_doB rfl (by rfl) (fun K hK => ?_)
      skip
      refine wp_of_list rfl ?_
      refine wpList_append_one rfl _ _ _ rfl w.heap.size 3 i0 (.int .i64 0) 8 Tryz.underlying40 hi hi0 hi1 hi2 rfl _ _ _ rfl HS.own _ (encI 2) rfl rfl (HI.cell 0 rfl) (by unfold maxLen; simp) (by simp) HS.le ?_
      intro v6 w6 ho6 hg6 _
      have HB := HB.grown hg6 (fun h => HS.own.not_box HB (by decide) h.symm)
      have HS := HS.appI ho6 hg6
      clear ho6 hg6 HI
      refine hK _ _ HS.ext ?_
      clear hK K
      (try simp only [Act.put, setZa, setZ0, setZ1])
      refine extT_doB rfl (by rfl) (fun K hK => ?_)
      skip
      refine wp_of_list rfl ?_
      refine wpList_append_own_at _ rfl _ _ _ rfl w.heap.size 76 k0 _ 8 8 Tryz.underlying111 hk hk0 hk1 hk2 rfl (by decide) _ _ _ rfl (bk_row HS.bk) _ 1 1 (bkCells P0) rfl (bkCells_len _) (box_news HP0.out HB) (bk_one _) (by unfold maxLen; simp) (by simp) HS.le ?_
      intro v7 w7 ho7 hg7 _ _
      skip
      have HS := HS.appB ho7 hg7
      clear ho7 hg7 HB
      refine hK _ _ HS.ext ?_
      clear hK K
      (try simp only [Act.put, setZa, setZ0, setZ1])
      iterate 2 ((first
       | refine extT_move rfl rfl (by rfl) (by rfl) ?_
       | refine extT_assign rfl rfl (by rfl) (by rfl) ?_
       | refine extT_pick_t rfl rfl (by rfl) (by rfl) (by rfl) ?_
       | refine extT_pick_f rfl rfl (by rfl) (by rfl) (by rfl) ?_
       | (apply extT_take rfl (by rfl)
          · intro w' hS
            have hSc := hS.cells
            (try simp only [World.size_drew, World.cell?_drew] at hSc)
            go_simp
            (try simp (disch := omega) only [i64_id, u64_id, ↓IntWalk.iteOmega, Int.tdiv_eq_ediv_of_nonneg, Int.tmod_eq_emod_of_nonneg])
            try rfl)
       | refine extT_pass rfl (by rfl) ?_); simp only [Act.put, setZa, setZ0, setZ1])
      refine extT_nil ?_
      skip
      rotate_left
      all_goals
        obtain ⟨a7, c7, rfl⟩ := HS.own.shape
        obtain ⟨a8, c8, rfl⟩ := HS.bk.shape
        have HSN := Lib.hid HS
        clear HS hld hcd hpl2 hdl2
        go_wp2_with fail
        go_roundw
        case rel => exact ⟨3, by omega, by go_num, HSN⟩
        case measure => simp [intOf]
    · -- round 3
      have HS := HSH.out
      obtain ⟨af, cf, rfl⟩ := HS.own.shape
      obtain ⟨ab, cb, rfl⟩ := HS.bk.shape
      simp only [fromL, blkL, Nat.reduceLeDiff, ↓reduceIte, List.length_nil, List.length_cons, Nat.reduceAdd] at HS ⊢
      have hld : ∀ w', Ext w w' → (Instr.loadAt 76 (.pointer (some ⟨pb, po + 24, none⟩))).run Tryz.prog w' = .ok (arrV P1) w' := fun w' e => by
        have h := (HPB.out.ext e).load 3 (by simp)
        exact h
      have hcd := (Below.cell HS.ext (p := ⟨db, dO + 3, none⟩) hdl).trans hd3
      have hpl2 := Nat.lt_of_lt_of_le hpl HS.ext.size
      have hdl2 := Nat.lt_of_lt_of_le hdl HS.ext.size
      go_wp2_with fail
      refine wp_region_seT w HS.ext (.take 0 (.take 1 (.take 4 (.take 5 (.take 6 (.take 7 (.take 8 (.two 2 9 (.two 3 9 (.one 9 (.one 10 (.take 11 (.take 12 .done)))) (.one 3 (.one 10 (.take 11 (.take 12 .done))))) (.one 2 (.one 3 (.one 10 (.take 11 (.take 12 .done))))))))))))) (by kernel_rfl) (by kernel_rfl) (fun wc hxc => ?_)
      have HS := HS.more hxc
      iterate 6 ((first
       | refine extT_move rfl rfl (by rfl) (by rfl) ?_
       | refine extT_assign rfl rfl (by rfl) (by rfl) ?_
       | refine extT_pick_t rfl rfl (by rfl) (by rfl) (by rfl) ?_
       | refine extT_pick_f rfl rfl (by rfl) (by rfl) (by rfl) ?_
       | (apply extT_take rfl (by rfl)
          · intro w' hS
            have hSc := hS.cells
            (try simp only [World.size_drew, World.cell?_drew] at hSc)
            go_simp
            (try simp (disch := omega) only [i64_id, u64_id, ↓IntWalk.iteOmega, Int.tdiv_eq_ediv_of_nonneg, Int.tmod_eq_emod_of_nonneg])
            try rfl)
       | refine extT_pass rfl (by rfl) ?_); simp only [Act.put, setZa, setZ0, setZ1])
      (refine extT_load 76 rfl rfl (by rfl) (by rfl) hld ?_; simp only [Act.put, setZa, setZ0, setZ1])
      refine extT_twoB rfl rfl (by rfl) (by rfl) (fun K hK => ?_) (fun K hK => ?_)
      go_simp
      refine hK _ _ (HS.alloc _).ext ?_
      clear hK K
      (try simp only [Act.put, setZa, setZ0, setZ1])
      have HI := HS.newI 3
      (try simp only [World.size_alloc] at HI)
      skip
      have HS := HS.alloc (.cells #[encI 3] 3)
      refine extT_twoB rfl rfl (by rfl) (by rfl) (fun K hK => ?_) (fun K hK => ?_)
      skip
      refine wp_of_list rfl ?_
      refine wpList_append_one rfl _ _ _ rfl w.heap.size 3 i0 (.int .i64 0) 8 Tryz.underlying40 hi hi0 hi1 hi2 rfl _ _ _ rfl HS.own _ (encI 3) rfl rfl (HI.cell 0 rfl) (by unfold maxLen; simp) (by simp) HS.le ?_
      intro v6 w6 ho6 hg6 _
      skip
      have HS := HS.appI ho6 hg6
      clear ho6 hg6 HI
      refine hK _ _ HS.ext ?_
      clear hK K
      (try simp only [Act.put, setZa, setZ0, setZ1])
      refine extT_doB rfl (by rfl) (fun K hK => ?_)
      refine wp_build 111 1 _ rfl rfl (build_arr HP1.out _) ?_
      refine hK _ _ (HS.alloc _).ext ?_
      clear hK K
      (try simp only [Act.put, setZa, setZ0, setZ1])
      have HB := HS.newB P1
      skip
      have HS := HS.alloc (.cells (P1.map encB).toArray 76)
      refine extT_doB rfl (by rfl) (fun K hK => ?_)
      skip
      refine wp_of_list rfl ?_
      refine wpList_append_own_at _ rfl _ _ _ rfl w.heap.size 76 k0 _ 8 8 Tryz.underlying111 hk hk0 hk1 hk2 rfl (by decide) _ _ _ rfl (bk_row HS.bk) _ 1 1 (bkCells P1) rfl (bkCells_len _) (box_news HP1.out HB) (bk_one _) (by unfold maxLen; simp) (by simp) HS.le ?_
      intro v7 w7 ho7 hg7 _ _
      skip
      have HS := HS.appB ho7 hg7
      clear ho7 hg7 HB
      refine hK _ _ HS.ext ?_
      clear hK K
      (try simp only [Act.put, setZa, setZ0, setZ1])
      iterate 2 ((first
       | refine extT_move rfl rfl (by rfl) (by rfl) ?_
       | refine extT_assign rfl rfl (by rfl) (by rfl) ?_
       | refine extT_pick_t rfl rfl (by rfl) (by rfl) (by rfl) ?_
       | refine extT_pick_f rfl rfl (by rfl) (by rfl) (by rfl) ?_
       | (apply extT_take rfl (by rfl)
          · intro w' hS
            have hSc := hS.cells
            (try simp only [World.size_drew, World.cell?_drew] at hSc)
            go_simp
            (try simp (disch := omega) only [i64_id, u64_id, ↓IntWalk.iteOmega, Int.tdiv_eq_ediv_of_nonneg, Int.tmod_eq_emod_of_nonneg])
            try rfl)
       | refine extT_pass rfl (by rfl) ?_); simp only [Act.put, setZa, setZ0, setZ1])
      refine extT_nil ?_
      skip
      rotate_left
      refine wp_build 111 1 _ rfl rfl (build_arr HP1.out _) ?_
      refine hK _ _ (HS.alloc _).ext ?_
      clear hK K
      (try simp only [Act.put, setZa, setZ0, setZ1])
      have HB := HS.newB P1
      have HI := HI.ext (Ext.alloc _ (litB P1))
      have HS := HS.alloc (.cells (P1.map encB).toArray 76)
      refine extT_doB rfl (by rfl) (fun K hK => ?_)
      skip
      refine wp_of_list rfl ?_
      refine wpList_append_one rfl _ _ _ rfl w.heap.size 3 i0 (.int .i64 0) 8 Tryz.underlying40 hi hi0 hi1 hi2 rfl _ _ _ rfl HS.own _ (encI 3) rfl rfl (HI.cell 0 rfl) (by unfold maxLen; simp) (by simp) HS.le ?_
      intro v6 w6 ho6 hg6 _
      have HB := HB.grown hg6 (fun h => HS.own.not_box HB (by decide) h.symm)
      have HS := HS.appI ho6 hg6
      clear ho6 hg6 HI
      refine hK _ _ HS.ext ?_
      clear hK K
      (try simp only [Act.put, setZa, setZ0, setZ1])
      refine extT_doB rfl (by rfl) (fun K hK => ?_)
      skip
      refine wp_of_list rfl ?_
      refine wpList_append_own_at _ rfl _ _ _ rfl w.heap.size 76 k0 _ 8 8 Tryz.underlying111 hk hk0 hk1 hk2 rfl (by decide) _ _ _ rfl (bk_row HS.bk) _ 1 1 (bkCells P1) rfl (bkCells_len _) (box_news HP1.out HB) (bk_one _) (by unfold maxLen; simp) (by simp) HS.le ?_
      intro v7 w7 ho7 hg7 _ _
      skip
      have HS := HS.appB ho7 hg7
      clear ho7 hg7 HB
      refine hK _ _ HS.ext ?_
      clear hK K
      (try simp only [Act.put, setZa, setZ0, setZ1])
      iterate 2 ((first
       | refine extT_move rfl rfl (by rfl) (by rfl) ?_
       | refine extT_assign rfl rfl (by rfl) (by rfl) ?_
       | refine extT_pick_t rfl rfl (by rfl) (by rfl) (by rfl) ?_
       | refine extT_pick_f rfl rfl (by rfl) (by rfl) (by rfl) ?_
       | (apply extT_take rfl (by rfl)
          · intro w' hS
            have hSc := hS.cells
            (try simp only [World.size_drew, World.cell?_drew] at hSc)
            go_simp
            (try simp (disch := omega) only [i64_id, u64_id, ↓IntWalk.iteOmega, Int.tdiv_eq_ediv_of_nonneg, Int.tmod_eq_emod_of_nonneg])
            try rfl)
       | refine extT_pass rfl (by rfl) ?_); simp only [Act.put, setZa, setZ0, setZ1])
      refine extT_nil ?_
      skip
      rotate_left
      refine wp_build 111 1 _ rfl rfl (build_arr HP1.out _) ?_
      refine hK _ _ (HS.alloc _).ext ?_
      clear hK K
      (try simp only [Act.put, setZa, setZ0, setZ1])
      have HB := HS.newB P1
      skip
      have HS := HS.alloc (.cells (P1.map encB).toArray 76)
      refine extT_doB rfl (by rfl) (fun K hK => ?_)
      go_simp
      refine hK _ _ (HS.alloc _).ext ?_
      clear hK K
      (try simp only [Act.put, setZa, setZ0, setZ1])
      have HI := HS.newI 3
      (try simp only [World.size_alloc] at HI)
      have HB := HB.ext (Ext.alloc _ (litI 3))
      have HS := HS.alloc (.cells #[encI 3] 3)
      refine extT_doB rfl (by rfl) (fun K hK => ?_)
      skip
      refine wp_of_list rfl ?_
      refine wpList_append_one rfl _ _ _ rfl w.heap.size 3 i0 (.int .i64 0) 8 Tryz.underlying40 hi hi0 hi1 hi2 rfl _ _ _ rfl HS.own _ (encI 3) rfl rfl (HI.cell 0 rfl) (by unfold maxLen; simp) (by simp) HS.le ?_
      intro v6 w6 ho6 hg6 _
      have HB := HB.grown hg6 (fun h => HS.own.not_box HB (by decide) h.symm)
      have HS := HS.appI ho6 hg6
      clear ho6 hg6 HI
      refine hK _ _ HS.ext ?_
      clear hK K
      (try simp only [Act.put, setZa, setZ0, setZ1])
      refine extT_doB rfl (by rfl) (fun K hK => ?_)
      skip
      refine wp_of_list rfl ?_
      refine wpList_append_own_at _ rfl _ _ _ rfl w.heap.size 76 k0 _ 8 8 Tryz.underlying111 hk hk0 hk1 hk2 rfl (by decide) _ _ _ rfl (bk_row HS.bk) _ 1 1 (bkCells P1) rfl (bkCells_len _) (box_news HP1.out HB) (bk_one _) (by unfold maxLen; simp) (by simp) HS.le ?_
      intro v7 w7 ho7 hg7 _ _
      skip
      have HS := HS.appB ho7 hg7
      clear ho7 hg7 HB
      refine hK _ _ HS.ext ?_
      clear hK K
      (try simp only [Act.put, setZa, setZ0, setZ1])
      iterate 2 ((first
       | refine extT_move rfl rfl (by rfl) (by rfl) ?_
       | refine extT_assign rfl rfl (by rfl) (by rfl) ?_
       | refine extT_pick_t rfl rfl (by rfl) (by rfl) (by rfl) ?_
       | refine extT_pick_f rfl rfl (by rfl) (by rfl) (by rfl) ?_
       | (apply extT_take rfl (by rfl)
          · intro w' hS
            have hSc := hS.cells
            (try simp only [World.size_drew, World.cell?_drew] at hSc)
            go_simp
            (try simp (disch := omega) only [i64_id, u64_id, ↓IntWalk.iteOmega, Int.tdiv_eq_ediv_of_nonneg, Int.tmod_eq_emod_of_nonneg])
            try rfl)
       | refine extT_pass rfl (by rfl) ?_); simp only [Act.put, setZa, setZ0, setZ1])
      refine extT_nil ?_
      skip
      rotate_left
      all_goals
        obtain ⟨a7, c7, rfl⟩ := HS.own.shape
        obtain ⟨a8, c8, rfl⟩ := HS.bk.shape
        have HSN := Lib.hid HS
        clear HS hld hcd hpl2 hdl2
        go_wp2_with fail
        go_roundw
        case rel => exact ⟨4, by omega, by go_num, HSN⟩
        case measure => simp [intOf]
    · -- round 4
      obtain ⟨af, cf, rfl⟩ := HSH.out.own.shape
      obtain ⟨ab, cb, rfl⟩ := HSH.out.bk.shape
      simp only [fromL, blkL, Nat.reduceLeDiff, Nat.reduceEqDiff, ↓reduceIte, List.length_nil, List.length_cons, Nat.reduceAdd] at HSH ⊢
      have hcd := (Below.cell HSH.out.ext (p := ⟨db, dO + 4, none⟩) hdl).trans hd4
      have hdl2 := Nat.lt_of_lt_of_le hdl HSH.out.ext.size
      go_wp2_with fail
      go_roundw
      case rel => exact ⟨5, by omega, by go_num, HSH⟩
      case measure => simp [intOf]
    · -- the end of the loop
      obtain ⟨af, cf, rfl⟩ := HSH.out.own.shape
      obtain ⟨ab, cb, rfl⟩ := HSH.out.bk.shape
      simp only [fromL, blkL, Nat.reduceLeDiff, Nat.reduceEqDiff, ↓reduceIte, List.length_nil, List.length_cons, Nat.reduceAdd] at HSH ⊢
      generalize wr = w1 at *
      have HX1 := Lib.hid HSH.out.ext
      have HFR := Lib.hid (OwnG.slice HSH.out.own)
      have HBL := Lib.hid (OwnBk.blks HSH.out.bk (by simp) (fun i h => by
        have h2 : i < 2 := h
        rcases (by omega : i = 0 ∨ i = 1) with rfl | rfl
        · exact HP0.out
        · exact HP1.out))
      have e0 := (Below.cell HX1.out (p := ⟨db, dO, none⟩) hdl).trans hd0
      have e1 := (Below.cell HX1.out (p := ⟨db, dO + 1, none⟩) hdl).trans hd1
      have e2 := (Below.cell HX1.out (p := ⟨db, dO + 2, none⟩) hdl).trans hd2
      have e3 := (Below.cell HX1.out (p := ⟨db, dO + 3, none⟩) hdl).trans hd3
      have e4 := (Below.cell HX1.out (p := ⟨db, dO + 4, none⟩) hdl).trans hd4
      have dl1 := Nat.lt_of_lt_of_le hdl HX1.out.size
      have hw1 := HX1.out.size
      clear HSH hd0 hd1 hd2 hd3 hd4 HS0
      go_wp2_with fail
      go_at_call 97
      refine (cloneBk_any _ [D0, D1, P0, P1, P2] _ (by simp) (by simp) (HPB.out.ext HX1.out)).mono ?_
      rintro e w2 ⟨vo, rfl, hO2, hx2⟩
      obtain ⟨g, cap, cur, rfl, hgb, hgc, hcap, hcur⟩ : ∃ g cap cur, vo = .slice (some ⟨g, 0, none⟩) 5 cap ∧ w1.heap.size ≤ g ∧ BoxAt w2 g cur 76 ∧ 5 ≤ cap ∧ cur.size = cap * 8 := by
        rcases hO2.2 with ⟨_, h2⟩ | ⟨g, cap, cur, h1, h3, h4, h5, h6, h7, h8⟩
        · simp at h2
        · exact ⟨g, cap, cur, h1, h3, h4, h5, h7⟩
      have f0 := (Below.cell hx2 (p := ⟨db, dO, none⟩) dl1).trans e0
      have f1 := (Below.cell hx2 (p := ⟨db, dO + 1, none⟩) dl1).trans e1
      have dl2 := Nat.lt_of_lt_of_le dl1 hx2.size
      have HX2 := Lib.hid hx2
      have hgl2 := hgc.lt
      have HG2 := Lib.hid hgc
      have HC2 := Lib.hid hcur
      clear hO2 hx2 hgc hcur
      go_wp2_with fail
      refine wp_loop_rounds 6 ?_
      rw [rounds_succ]
      go_wp2_with fail
      go_at_call 98
      refine (weights_any _ 0 _ (by decide) (HFR.out.ext HX2.out)).mono ?_
      rintro e w3 ⟨vw, rfl, hw3, hx3⟩
      rw [wts0] at hw3
      obtain ⟨va, vc, rfl⟩ := hw3.shape
      have HW3 := Lib.hid hw3
      have HX3 := Lib.hid (HX2.out.trans hx3)
      have HG3 := Lib.hid (HG2.out.ext hx3)
      clear hw3 hx3
      simp only [List.length_cons, List.length_nil, Nat.reduceAdd] at HW3 ⊢
      go_wp2_with fail
      go_at_call 99
      refine (combine_any _ _ _ _ P0 P1 _ HW3.out (HBL.out.ext HX3.out)).mono ?_
      rintro e w4 ⟨rfl, hx4⟩
      have HX4 := Lib.hid (HX3.out.trans hx4)
      have HG4 := Lib.hid (HG3.out.ext hx4)
      have hgl4 := HG4.out.lt
      clear hx4 HX3 HG3
      have HCL := Lib.hid (comb_len (p := (wtsL 0).getD 0 0#8) (q := (wtsL 0).getD 1 0#8) HP0.out HP1.out)
      go_wp2_with (refine wpList_store_arrO _ _ rfl (by rfl) rfl rfl HG4.out HCL.out (by have := HC2.out; omega) HX4.out hgb ?_; intro w5 cw5 hx5 hg5 hc5 hn5 hs5)
      have HX5 := Lib.hid hx5
      have HG5 := Lib.hid hg5
      have HC5 : Hid (cw5.size = cap * 8) := hc5.trans HC2.out
      have HN5 := Lib.hid hn5
      have q0 := (Below.cell HX5.out (p := ⟨db, dO, none⟩) dl1).trans e0
      have q1 := (Below.cell HX5.out (p := ⟨db, dO + 1, none⟩) dl1).trans e1
      have q2 := (Below.cell HX5.out (p := ⟨db, dO + 2, none⟩) dl1).trans e2
      have q3 := (Below.cell HX5.out (p := ⟨db, dO + 3, none⟩) dl1).trans e3
      have q4 := (Below.cell HX5.out (p := ⟨db, dO + 4, none⟩) dl1).trans e4
      have dl5 := Nat.lt_of_lt_of_le dl1 HX5.out.size
      clear hx5 hg5 hc5 hn5 hs5 HG4 HX4 hgl4 HW3 HCL
      clear f0 f1 dl2 hgl2 HX2 HG2 HC2
      go_wp2_with fail
      rw [rounds_succ]
      go_wp2_with fail
      go_at_call 98
      refine (weights_any _ 1 _ (by decide) (HFR.out.ext HX5.out)).mono ?_
      rintro e w3 ⟨vw, rfl, hw3, hx3⟩
      have HX2 := HX5
      have HG2 := HG5
      have HC2 := HC5
      clear q0 q1 q2 q3 q4 dl5 HX5 HG5 HC5 HN5
      rw [wts1] at hw3
      obtain ⟨va, vc, rfl⟩ := hw3.shape
      have HW3 := Lib.hid hw3
      have HX3 := Lib.hid (HX2.out.trans hx3)
      have HG3 := Lib.hid (HG2.out.ext hx3)
      clear hw3 hx3
      simp only [List.length_cons, List.length_nil, Nat.reduceAdd] at HW3 ⊢
      go_wp2_with fail
      go_at_call 99
      refine (combine_any _ _ _ _ P0 P1 _ HW3.out (HBL.out.ext HX3.out)).mono ?_
      rintro e w4 ⟨rfl, hx4⟩
      have HX4 := Lib.hid (HX3.out.trans hx4)
      have HG4 := Lib.hid (HG3.out.ext hx4)
      have hgl4 := HG4.out.lt
      clear hx4 HX3 HG3
      have HCL := Lib.hid (comb_len (p := (wtsL 1).getD 0 0#8) (q := (wtsL 1).getD 1 0#8) HP0.out HP1.out)
      go_wp2_with (refine wpList_store_arrO _ _ rfl (by rfl) rfl rfl HG4.out HCL.out (by have := HC2.out; omega) HX4.out hgb ?_; intro w9 cw9 hx5 hg5 hc5 hn5 hs5)
      have HX5 := Lib.hid hx5
      have HG5 := Lib.hid hg5
      have HC5 : Hid (cw9.size = cap * 8) := hc5.trans HC2.out
      have HN5 := Lib.hid hn5
      have q0 := (Below.cell HX5.out (p := ⟨db, dO, none⟩) dl1).trans e0
      have q1 := (Below.cell HX5.out (p := ⟨db, dO + 1, none⟩) dl1).trans e1
      have q2 := (Below.cell HX5.out (p := ⟨db, dO + 2, none⟩) dl1).trans e2
      have q3 := (Below.cell HX5.out (p := ⟨db, dO + 3, none⟩) dl1).trans e3
      have q4 := (Below.cell HX5.out (p := ⟨db, dO + 4, none⟩) dl1).trans e4
      have dl5 := Nat.lt_of_lt_of_le dl1 HX5.out.size
      clear hx5 hg5 hc5 hn5 hs5 HG4 HX4 hgl4 HW3 HCL
      clear HX2 HG2 HC2
      go_wp2_with fail
      rw [rounds_succ]
      go_wp2_with fail
      rw [rounds_succ]
      go_wp2_with fail
      rw [rounds_succ]
      go_wp2_with fail
      rw [rounds_succ]
      go_wp2_with fail
      go_ret2
      refine ⟨g, cap, rfl, HG5.out.lt, fun j hj => HG5.out.cell (8 + j) (HN5.out j hj), HX1.out.trans HX5.out⟩
end Go.Proofs.YtjabgpejmnpamaaGreatDoor

namespace Go.Proofs.YtjabgpejmnpamaaGreatDoor
open Go.RowKit
theorem OwnB.made (w : World) (n base : Nat) (hb : base ≤ w.heap.size) (hm : n ≤ maxLen) : OwnG encB 5 (w.alloc (.cells (madeCells #[.int .u8 0] n) 5)) base (.slice (some ⟨w.heap.size, 0, none⟩) n n) (List.replicate n 0#8) := by
  have hl : (List.replicate n 0#8).length = n := List.length_replicate
  have hc : madeCells #[.int .u8 0] n = ((List.replicate n 0#8).map encB).toArray := by
    obtain ⟨c, h, hs, hc⟩ := World.rowIs_made w (.int .u8 0) n 5
    have h2 : (w.alloc (.cells (madeCells #[.int .u8 0] n) 5)).heap[w.heap.size]? = some (.cells (madeCells #[.int .u8 0] n) 5 (0, 0)) := heap_alloc_new _ _
    rw [h2] at h
    injection h with h
    injection h with h _ _
    subst h
    refine Array.ext_getElem? fun i => ?_
    by_cases hi : i < n
    · rw [hc i hi]; simp [hi]; rfl
    · rw [Array.getElem?_eq_none (by omega)]; simp; omega
  have := OwnG.lit (enc := encB) w (List.replicate n 0#8) 5 base hb (by rw [hl]; exact hm) _ hc
  rwa [hl] at this
def PayEnd (w : World) (l : List (BitVec 8)) (e : Ending) (w' : World) : Prop := ∃ v', e = .returned v' ∧ SliceAt encB w' v' l ∧ Ext w w'
theorem cfg_next (c : Cfg) {i : Nat} (h : i < 11) : ((cfgL c).take (i + 1)).flatMap (fun n => uv n.toNat) = ((cfgL c).take i).flatMap (fun n => uv n.toNat) ++ Lb.numsL [((cfgL c).getD i 0).toNat] := by
  have hl : i < (cfgL c).length := h
  rw [List.take_succ_eq_append_getElem hl, List.flatMap_append, getD_in hl]
  simp [Lb.numsL]
theorem cfg_short {c : Cfg} (h : ∀ n, n ∈ cfgL c → 0 ≤ n ∧ n ≤ 65535) (i : Nat) : (((cfgL c).take i).flatMap (fun n => uv n.toNat)).length ≤ 33 := by
  have key : ∀ l : List Int, (∀ n, n ∈ l → 0 ≤ n ∧ n ≤ 65535) → (l.flatMap fun n => uv n.toNat).length ≤ 3 * l.length := by
    intro l
    induction l with
    | nil => intro _; simp
    | cons a t ih =>
      intro h
      rw [List.flatMap_cons, List.length_append, List.length_cons]
      have := (uv_length 3 a.toNat (by decide) (by have := (h a (by simp)).2; omega)).2
      have := ih fun n hn => h n (by simp [hn])
      omega
  have h1 := key ((cfgL c).take i) fun n hn => h n (List.mem_of_mem_take hn)
  have h2 : ((cfgL c).take i).length ≤ 11 := by rw [List.length_take]; exact Nat.le_trans (Nat.min_le_right _ _) (Nat.le_refl _)
  omega
set_option maxRecDepth 100000 in
set_option maxHeartbeats 4000000 in
theorem payload_any (l : Lab) (dv : Value) (x : List Bool) (w : World) (F : Lb.Fine l x) (h : SliceAt Value.bool w dv x) :
    Calls Tryz.prog 33 #[labV l dv] w (PayEnd w (Lb.payL l x)) := by
  obtain ⟨ad, cd, rfl⟩ := h.shape
  have HD := Lib.hid h
  have HF := Lib.hid F
  obtain ⟨dk, hdk⟩ := Int.eq_ofNat_of_zero_le F.disk.1
  obtain ⟨bk, hbk⟩ := Int.eq_ofNat_of_zero_le F.blob.1
  have HBK : Hid ((bk : Int) = l.blob) := hbk.symm
  have hdk60 : dk < 60 := by have := F.disk.2; omega
  have hbk60 : bk ≤ 1048576 := by have := F.blob.2; omega
  have hP : Lb.payL l x = Lb.numsL [l.array.toNat, dk, l.gen.toNat, l.prev.toNat] ++ Lb.cfgBytes l.c ++ uv (Lb.bitsL x).length ++ Lb.bitsL x ++ Lb.numsL [bk, l.sum.toNat, l.root.toNat] := by
    unfold Lb.payL; rw [hdk, hbk]; rfl
  have HP := Lib.hid hP
  obtain ⟨n, hn⟩ : ∃ n, x.length = n := ⟨_, rfl⟩
  have HN := Lib.hid hn
  have hn60 : n ≤ 60 := by have := F.len; omega
  rw [hn] at HD ⊢
  have HB1 : Hid (BoxAt (w.alloc (.cells (labA l (.slice ad n cd)) 29)) w.heap.size (labA l (.slice ad n cd)) 29) := BoxAt.new _ _ _
  have HX1 : Hid (Ext w (w.alloc (.cells (labA l (.slice ad n cd)) 29))) := Ext.alloc _ _
  have k0 := HB1.out.cell 0 (v := encU l.array) rfl
  have k1 := HB1.out.cell 1 (v := .int .i64 dk) (by rw [show (dk : Int) = l.disk from hdk.symm]; rfl)
  have k2 := HB1.out.cell 2 (v := encU l.gen) rfl
  have k3 := HB1.out.cell 3 (v := encU l.prev) rfl
  have hl1 := HB1.out.lt
  clear h hP hn F hdk hbk
  go_enter Tryz.func33, Tryz.ntmps33
  go_upto_region 1 with fail
  generalize w.alloc (.cells (labA l (.slice ad n cd)) 29) = w1 at *
  go_wp2_with fail
  go_at_call 34
  have hnm : ∀ n, n ∈ [l.array.toNat, dk, l.gen.toNat, l.prev.toNat] → n < 18446744073709551616 := by
    intro n hn
    simp only [List.mem_cons, List.not_mem_nil, or_false] at hn
    have := l.array.isLt
    have := l.gen.isLt
    have := l.prev.isLt
    omega
  refine (numbers_any _ _ [] [l.array.toNat, dk, l.gen.toNat, l.prev.toNat] _ (by simp) (by simp) hnm SliceAt.nil (SliceAt.lit (enc := encM) w1 [l.array.toNat, dk, l.gen.toNat, l.prev.toNat] _ (0, 0) _ rfl)).mono ?_
  rintro e w2 ⟨v2, rfl, hs2, hx2⟩
  rw [List.nil_append] at hs2
  have hA : (Lb.numsL [l.array.toNat, dk, l.gen.toNat, l.prev.toNat]).length ≤ 40 := numsL_len _ hnm
  generalize Lb.numsL [l.array.toNat, dk, l.gen.toNat, l.prev.toNat] = A at *
  have HS2 := Lib.hid hs2
  have HX2 : Hid (Ext w w2) := HX1.out.trans ((Ext.alloc _ _).trans hx2)
  have HB2 := Lib.hid (HB1.out.ext ((Ext.alloc _ _).trans hx2))
  have hg2 := HB2.out.lt
  clear hs2 hx2 k0 k1 k2 k3 hl1 HB1 HX1 hnm
  go_wp2_with fail
  go_at_call 73
  refine (fields_any _ _ hg2).mono ?_
  rintro e w3 ⟨v3, rfl, hs3, hx3⟩
  obtain ⟨af, cf, rfl⟩ := hs3.shape
  have HS3 := Lib.hid hs3
  have HB3 := Lib.hid (HB2.out.ext hx3)
  have HX3 : Hid (Ext w w3) := HX2.out.trans hx3
  have HST : Hid (SliceAt encB w3 v2 (A ++ ((cfgL l.c).take 0).flatMap fun n => uv n.toNat)) := by
    show SliceAt _ _ _ _
    rw [List.take_zero, List.flatMap_nil, List.append_nil]; exact HS2.out.ext hx3
  rw [show (List.range 11).length = 11 from rfl] at HS3 ⊢
  clear hs3 hx3 HS2 HB2 HX2 hg2
  go_wp2_with fail
  go_loopw [3, 24] (fun vo it wr => ∃ i : Nat, i ≤ 11 ∧ it = .int .i64 i ∧ Hid (SliceAt encB wr vo (A ++ ((cfgL l.c).take i).flatMap fun n => uv n.toNat)) ∧ Hid (Ext w3 wr)) (fun _ it _ => 11 - (intOf it).toNat)
  case atStart => exact ⟨0, by decide, rfl, HST, Lib.hid (Ext.refl _)⟩
  case round =>
    obtain ⟨i, hi, rfl, HS, HX⟩ := hrel
    by_cases hlt : i < 11
    · have hin : (i : Int) < 11 := by omega
      obtain ⟨bp, op, rfl, hbp, hcp⟩ := (HS3.out.ext HX.out).get i (by simpa using hlt)
      rw [List.getElem_range] at hcp
      have hcl := (HB3.out.ext HX.out).cell (4 + i) (lab_field l _ i hlt)
      have hgl := (HB3.out.ext HX.out).lt
      have hcm : 0 ≤ (cfgL l.c).getD i 0 ∧ (cfgL l.c).getD i 0 ≤ 65535 := HF.out.cfg _ (by rw [getD_in (show i < (cfgL l.c).length from hlt)]; exact List.getElem_mem _)
      have HNX := Lib.hid (cfg_next l.c hlt)
      have hsl := cfg_short HF.out.cfg i
      obtain ⟨q, hq⟩ := Int.eq_ofNat_of_zero_le hcm.1
      have hq6 : q ≤ 65535 := by omega
      rw [hq, Int.toNat_natCast] at HNX
      rw [hq] at hcl
      have hyl : (A ++ ((cfgL l.c).take i).flatMap fun n => uv n.toNat).length ≤ 10000 := by rw [List.length_append]; omega
      obtain ⟨y, hy⟩ : ∃ y, (A ++ ((cfgL l.c).take i).flatMap fun n => uv n.toNat) = y := ⟨_, rfl⟩
      have HY := Lib.hid hy
      rw [hy] at HS hyl
      clear hq hcm hsl hy
      go_wp2_with fail
      go_at_call 34
      refine (numbers_any _ _ y [q] _ hyl (by simp) (fun n hn => by rw [List.mem_singleton] at hn; omega) (HS.out.ext (Ext.alloc _ _)) (SliceAt.lit (enc := encM) wr [q] _ (0, 0) _ rfl)).mono ?_
      rintro e w5 ⟨v5, rfl, hs5, hx5⟩
      have HS5 : Hid (SliceAt encB w5 v5 (A ++ ((cfgL l.c).take (i + 1)).flatMap fun n => uv n.toNat)) := by
        show SliceAt _ _ _ _
        rw [HNX.out, ← List.append_assoc, HY.out]; exact hs5
      have HX5 : Hid (Ext w3 w5) := HX.out.trans ((Ext.alloc _ _).trans hx5)
      clear hs5 hx5 hcl hgl hcp hbp
      go_wp2_with fail
      go_roundw
      case rel => exact ⟨i + 1, by omega, by go_num, HS5, HX5⟩
      case measure => simp [intOf]; omega
    · have hin : i = 11 := by omega
      subst hin
      rw [show (cfgL l.c).take 11 = cfgL l.c from rfl, show ((cfgL l.c).flatMap fun n => uv n.toNat) = Lb.cfgBytes l.c from rfl] at HS
      have hyl : (A ++ Lb.cfgBytes l.c).length ≤ 10000 := by rw [List.length_append]; have := Lb.cfgB_len l.c HF.out.cfg; omega
      obtain ⟨y, hy⟩ : ∃ y, A ++ Lb.cfgBytes l.c = y := ⟨_, rfl⟩
      have HY := Lib.hid hy
      rw [hy] at HS hyl HP
      have HB := Lib.hid (HB3.out.ext HX.out)
      have HXw := Lib.hid (HX3.out.trans HX.out)
      clear hy HB3 HX3 HX HS3
      have m15 := HB.out.cell 15 (v := .slice ad n cd) rfl
      have hgl := HB.out.lt
      obtain ⟨nb, hnb⟩ : ∃ nb, (n + 7) / 8 = nb := ⟨_, rfl⟩
      have hnbI : ((n : Int) + 7) / 8 = (nb : Int) := by omega
      have hnb8 : nb ≤ 8 := by omega
      have HNB := Lib.hid hnb
      clear hnb
      have hmk : ∀ w : World, (Instr.makeSlice 47 (.int .i64 (nb : Int)) (.int .i64 (nb : Int))).run Tryz.prog w = .ok (.slice (some ⟨w.heap.size, 0, none⟩) nb nb) (w.alloc (.cells (madeCells #[.int .u8 0] nb) 5)) :=
        run_make_row' 47 5 (.int .u8 0) 1 Tryz.underlying47 infoB rfl .i64 .i64 nb (by omega) (by first | omega | (unfold maxLen; omega))
      go_upto_region 8 with fail
      have HNBI := Lib.hid hnbI
      clear hnbI
      have HO0 : Hid (OwnG encB 5 ((wr.alloc (.cells (madeCells #[.int .u8 0] nb) 5)).alloc (.cells #[.slice (some ⟨wr.heap.size, 0, none⟩) nb nb] 47)) wr.heap.size (.slice (some ⟨wr.heap.size, 0, none⟩) nb nb) (Lb.bitsTo x 0)) := by
        have := (OwnB.made wr nb wr.heap.size (Nat.le_refl _) (by unfold maxLen; omega)).ext (Ext.alloc _ (.cells #[.slice (some ⟨wr.heap.size, 0, none⟩) nb nb] 47))
        show OwnG _ _ _ _ _ _
        rw [Lb.bitsTo, HN.out, HNB.out]; exact this
      have HBB : Hid (BoxAt ((wr.alloc (.cells (madeCells #[.int .u8 0] nb) 5)).alloc (.cells #[.slice (some ⟨wr.heap.size, 0, none⟩) nb nb] 47)) (wr.heap.size + 1) #[.slice (some ⟨wr.heap.size, 0, none⟩) nb nb] 47) := by
        have := BoxAt.new (wr.alloc (.cells (madeCells #[.int .u8 0] nb) 5)) #[.slice (some ⟨wr.heap.size, 0, none⟩) nb nb] 47
        rwa [World.size_alloc] at this
      have HX4 : Hid (Ext wr ((wr.alloc (.cells (madeCells #[.int .u8 0] nb) 5)).alloc (.cells #[.slice (some ⟨wr.heap.size, 0, none⟩) nb nb] 47))) := (Ext.alloc _ _).trans (Ext.alloc _ _)
      generalize (wr.alloc (.cells (madeCells #[.int .u8 0] nb) 5)).alloc (.cells #[.slice (some ⟨wr.heap.size, 0, none⟩) nb nb] 47) = w4 at *
      clear hmk m15 hgl
      generalize wr = wo at *
      have m15 := (HB.out.ext HX4.out).cell 15 (v := .slice ad n cd) rfl
      have hgl := (HB.out.ext HX4.out).lt
      have HBL : Hid (∀ i, (Lb.bitsTo x i).length = nb) := fun i => by rw [Lb.bitsTo_len, HN.out, HNB.out]
      go_wp2_with fail
      clear m15 hgl
      go_loopw [46] (fun it wr => ∃ i : Nat, i ≤ n ∧ it = .int .i64 i ∧ Hid (OwnG encB 5 wr wo.heap.size (.slice (some ⟨wo.heap.size, 0, none⟩) nb nb) (Lb.bitsTo x i)) ∧ Hid (BoxAt wr (wo.heap.size + 1) #[.slice (some ⟨wo.heap.size, 0, none⟩) nb nb] 47) ∧ Hid (Ext wo wr)) (fun it _ => n - (intOf it).toNat)
      case atStart => exact ⟨0, Nat.zero_le _, rfl, HO0, HBB, HX4⟩
      case round =>
        obtain ⟨i, hi, rfl, HO, HBX, HX⟩ := hrel
        by_cases hlt : i < n
        · have hin : (i : Int) < (n : Int) := by omega
          have hxl : i < x.length := by rw [HN.out]; exact hlt
          obtain ⟨bd, od, rfl, hbd, hcd⟩ := (HD.out.ext (HXw.out.trans HX.out)).get i hxl
          rw [← getD_in (d := false) hxl] at hcd
          have HNX : Hid (Lb.bitsTo x (i + 1) = if x.getD i false then (Lb.bitsTo x i).set (i / 8) ((Lb.bitsTo x i).getD (i / 8) 0#8 ||| 1#8 <<< (i % 8)) else Lb.bitsTo x i) := rfl
          cases hxi : x.getD i false with
          | false =>
            rw [hxi] at hcd HNX
            have HN2 : Hid (Lb.bitsTo x (i + 1) = Lb.bitsTo x i) := HNX.out
            go_wp2_with fail
            go_roundw
            case rel => exact ⟨i + 1, by omega, by go_num, by rw [HN2.out]; exact HO, HBX, HX⟩
            case measure => simp [intOf]; omega
          | true =>
            rw [hxi] at hcd HNX
            have HN2 : Hid (Lb.bitsTo x (i + 1) = (Lb.bitsTo x i).set (i / 8) ((Lb.bitsTo x i).getD (i / 8) 0#8 ||| 1#8 <<< (i % 8))) := HNX.out
            have hi8 : i / 8 < nb := by have := HNB.out; omega
            have hbl := HBL.out i
            have hcy := HO.out.at hbl.symm (show i / 8 < (Lb.bitsTo x i).length by rw [hbl]; exact hi8)
            rw [← getD_in (d := 0#8) (show i / 8 < (Lb.bitsTo x i).length by rw [hbl]; exact hi8)] at hcy
            have hfy := HO.out.frees hbl.symm (i / 8)
            have hlo : wo.heap.size < wr.heap.size := (OwnG.lt HO.out wo.heap.size (by simp [Value.ownBlock])).2
            have HC := Lib.hid (bit_any i (wo.heap.size + 1) wo.heap.size nb _ wr hi8 (by omega) HBX.out.lt (HBX.out.cell 0 rfl) hlo hcy hfy)
            have HO2 : Hid (OwnG encB 5 ((wr.setCell ⟨wo.heap.size, i / 8, none⟩ (encB ((Lb.bitsTo x i).getD (i / 8) 0#8 ||| 1#8 <<< (i % 8)))).drew) wo.heap.size (.slice (some ⟨wo.heap.size, 0, none⟩) nb nb) (Lb.bitsTo x (i + 1))) := by
              show OwnG _ _ _ _ _ _
              rw [HN2.out]; exact (HO.out.put hbl.symm (i / 8) _).ext (Ext.drew _)
            generalize (Lb.bitsTo x i).getD (i / 8) 0#8 ||| 1#8 <<< (i % 8) = yb at *
            clear hcy hfy hlo hbl
            go_wp2_with fail
            refine HC.out.mono ?_
            rintro e w5 ⟨rfl, rfl⟩
            go_wp2_with fail
            refine ⟨?_, ?measure⟩
            apply Exists.intro
            repeat apply Exists.intro
            refine ⟨?rel, rfl⟩
            case rel => exact ⟨i + 1, by omega, by go_num, HO2, (HBX.out.set_off (by omega) _ _).ext (Ext.drew _), (HX.out.setOwn (Nat.le_refl _)).trans (Ext.drew _)⟩
            case measure => simp [intOf]; omega
        · have hin : i = n := by omega
          subst hin
          have hin2 : ¬ ((i : Int) < (i : Int)) := by omega
          have HBS : Hid (SliceAt encB wr (.slice (some ⟨wo.heap.size, 0, none⟩) nb nb) (Lb.bitsL x)) := by
            have := HO.out.slice
            rw [show Lb.bitsTo x i = Lb.bitsL x by unfold Lb.bitsL; rw [HN.out]] at this
            exact this
          have hbs8 : (Lb.bitsL x).length ≤ 50000 := by unfold Lb.bitsL; rw [HBL.out]; omega
          have HSy := Lib.hid (HS.out.ext HX.out)
          obtain ⟨Y, hYe⟩ : ∃ Y, y ++ uv (Lb.bitsL x).length ++ Lb.bitsL x = Y := ⟨_, rfl⟩
          have HYE := Lib.hid hYe
          have hYl : Y.length ≤ 10000 := by
            rw [← hYe, List.length_append, List.length_append]
            have h1 : (Lb.bitsL x).length ≤ 8 := by unfold Lb.bitsL; rw [HBL.out]; omega
            have h2 := (uv_len (Lb.bitsL x).length (by omega)).2
            have h3 : y.length ≤ 73 := by rw [← HY.out, List.length_append]; have := Lb.cfgB_len l.c HF.out.cfg; omega
            omega
          rw [hYe] at HP
          have hnm : ∀ n, n ∈ [bk, l.sum.toNat, l.root.toNat] → n < 18446744073709551616 := by
            intro n hn
            simp only [List.mem_cons, List.not_mem_nil, or_false] at hn
            have := l.sum.isLt
            have := l.root.isLt
            omega
          have hbx0 := HBX.out.cell 0 (v := .slice (some ⟨wo.heap.size, 0, none⟩) nb nb) rfl
          have hbxl := HBX.out.lt
          have HBq := Lib.hid (HB.out.ext HX.out)
          have k16 := HBq.out.cell 16 (v := .int .i64 bk) (by rw [HBK.out]; rfl)
          have k17 := HBq.out.cell 17 (v := encU l.sum) rfl
          have k18 := HBq.out.cell 18 (v := encU l.root) rfl
          have hgl := HBq.out.lt
          have HXw4 := Lib.hid (HXw.out.trans HX.out)
          generalize Lb.bitsL x = bs at *
          clear hYe HBL
          go_upto_region 15 with fail
          refine wp_region_extT (.take 0 (.take 1 (.take 3 (.take 4 (.take 5 (.take 6 (.take 7 (.take 8 (.take 9 (.two 2 10 (.one 10 (.one 11 (.take 12 .done))) (.one 2 (.one 11 (.take 12 .done))))))))))))) (by kernel_rfl) (by kernel_rfl) ?_
          iterate 9 ((first
           | refine extT_move rfl rfl (by rfl) (by rfl) ?_
           | refine extT_assign rfl rfl (by rfl) (by rfl) ?_
           | refine extT_pick_t rfl rfl (by rfl) (by rfl) (by rfl) ?_
           | refine extT_pick_f rfl rfl (by rfl) (by rfl) (by rfl) ?_
           | (apply extT_take rfl (by rfl)
              · intro w' hS
                have hSc := hS.cells
                (try simp only [World.size_drew, World.cell?_drew] at hSc)
                go_simp
                (try simp (disch := omega) only [u64_id])
                try rfl)
           | refine extT_pass rfl (by rfl) ?_); simp only [Act.put, setZa, setZ0, setZ1])
          refine extT_two rfl rfl (by rfl) (by rfl) (fun K hK => ?_) (fun K hK => ?_)
          go_simp
          go_at_call 36
          refine (appendBytes_any _ _ y bs _ (by omega) hbs8 (HSy.out.ext (Ext.drew _)) (HBS.out.ext (Ext.drew _))).mono ?_
          rintro e wb ⟨vb, rfl, hob, hxb⟩
          rw [HYE.out] at hob
          have HOB := Lib.hid (OwnB.slice hob)
          have HXB := Lib.hid hxb
          refine hK _ _ (by first | exact hxb | exact (Ext.drew _).trans hxb) ?_
          clear hK K hob hxb
          (try simp only [Act.put, setZa, setZ0, setZ1])
          refine extT_do rfl (by rfl) (fun K hK => ?_)
          go_simp
          refine hK _ _ (by first | exact Ext.alloc _ _ | exact (Ext.drew _).trans (Ext.alloc _ _) | exact (Ext.alloc _ _).trans (Ext.drew _)) ?_
          clear hK K
          (try simp only [Act.put, setZa, setZ0, setZ1])
          refine extT_do rfl (by rfl) (fun K hK => ?_)
          go_simp
          go_at_call 34
          refine (numbers_any _ _ Y [bk, l.sum.toNat, l.root.toNat] _ hYl (by simp) hnm (by first | exact HOB.out.ext (Ext.alloc _ _) | exact HOB.out) (by first | exact (SliceAt.lit (enc := encM) wr.drew [bk, l.sum.toNat, l.root.toNat] _ (0, 0) _ rfl).ext HXB.out | exact SliceAt.lit (enc := encM) wb [bk, l.sum.toNat, l.root.toNat] _ (0, 0) _ rfl)).mono ?_
          rintro e wf ⟨vf, rfl, hsf, hxf⟩
          have HSF := Lib.hid hsf
          have HXF : Hid (Ext w wf) := Ext.trans HXw4.out (by first | exact Ext.trans (Ext.drew _) (Ext.trans HXB.out (Ext.trans (Ext.alloc _ _) hxf)) | exact Ext.trans (Ext.trans (Ext.drew _) (Ext.alloc _ _)) (Ext.trans HXB.out hxf))
          refine hK _ _ (by first | exact hxf | exact Ext.trans (Ext.alloc _ _) hxf) ?_
          clear hK K hsf hxf
          (try simp only [Act.put, setZa, setZ0, setZ1])
          iterate 1 ((first
           | refine extT_move rfl rfl (by rfl) (by rfl) ?_
           | refine extT_assign rfl rfl (by rfl) (by rfl) ?_
           | refine extT_pick_t rfl rfl (by rfl) (by rfl) (by rfl) ?_
           | refine extT_pick_f rfl rfl (by rfl) (by rfl) (by rfl) ?_
           | (apply extT_take rfl (by rfl)
              · intro w' hS
                have hSc := hS.cells
                (try simp only [World.size_drew, World.cell?_drew] at hSc)
                go_simp
                (try simp (disch := omega) only [i64_id, u64_id, ↓IntWalk.iteOmega, Int.tdiv_eq_ediv_of_nonneg, Int.tmod_eq_emod_of_nonneg])
                try rfl)
           | refine extT_pass rfl (by rfl) ?_); simp only [Act.put, setZa, setZ0, setZ1])
          refine extT_nil ?_
          skip
          rotate_left
          go_simp
          refine hK _ _ (by first | exact Ext.alloc _ _ | exact (Ext.drew _).trans (Ext.alloc _ _) | exact (Ext.alloc _ _).trans (Ext.drew _)) ?_
          clear hK K
          (try simp only [Act.put, setZa, setZ0, setZ1])
          refine extT_do rfl (by rfl) (fun K hK => ?_)
          go_simp
          go_at_call 36
          refine (appendBytes_any _ _ y bs _ (by omega) hbs8 (HSy.out.ext ((Ext.drew _).trans (Ext.alloc _ _))) (HBS.out.ext ((Ext.drew _).trans (Ext.alloc _ _)))).mono ?_
          rintro e wb ⟨vb, rfl, hob, hxb⟩
          rw [HYE.out] at hob
          have HOB := Lib.hid (OwnB.slice hob)
          have HXB := Lib.hid hxb
          refine hK _ _ (by first | exact hxb | exact (Ext.drew _).trans hxb) ?_
          clear hK K hob hxb
          (try simp only [Act.put, setZa, setZ0, setZ1])
          refine extT_do rfl (by rfl) (fun K hK => ?_)
          go_simp
          go_at_call 34
          refine (numbers_any _ _ Y [bk, l.sum.toNat, l.root.toNat] _ hYl (by simp) hnm (by first | exact HOB.out.ext (Ext.alloc _ _) | exact HOB.out) (by first | exact (SliceAt.lit (enc := encM) wr.drew [bk, l.sum.toNat, l.root.toNat] _ (0, 0) _ rfl).ext HXB.out | exact SliceAt.lit (enc := encM) wb [bk, l.sum.toNat, l.root.toNat] _ (0, 0) _ rfl)).mono ?_
          rintro e wf ⟨vf, rfl, hsf, hxf⟩
          have HSF := Lib.hid hsf
          have HXF : Hid (Ext w wf) := Ext.trans HXw4.out (by first | exact Ext.trans (Ext.drew _) (Ext.trans HXB.out (Ext.trans (Ext.alloc _ _) hxf)) | exact Ext.trans (Ext.trans (Ext.drew _) (Ext.alloc _ _)) (Ext.trans HXB.out hxf))
          refine hK _ _ (by first | exact hxf | exact Ext.trans (Ext.alloc _ _) hxf) ?_
          clear hK K hsf hxf
          (try simp only [Act.put, setZa, setZ0, setZ1])
          iterate 1 ((first
           | refine extT_move rfl rfl (by rfl) (by rfl) ?_
           | refine extT_assign rfl rfl (by rfl) (by rfl) ?_
           | refine extT_pick_t rfl rfl (by rfl) (by rfl) (by rfl) ?_
           | refine extT_pick_f rfl rfl (by rfl) (by rfl) (by rfl) ?_
           | (apply extT_take rfl (by rfl)
              · intro w' hS
                have hSc := hS.cells
                (try simp only [World.size_drew, World.cell?_drew] at hSc)
                go_simp
                (try simp (disch := omega) only [i64_id, u64_id, ↓IntWalk.iteOmega, Int.tdiv_eq_ediv_of_nonneg, Int.tmod_eq_emod_of_nonneg])
                try rfl)
           | refine extT_pass rfl (by rfl) ?_); simp only [Act.put, setZa, setZ0, setZ1])
          refine extT_nil ?_
          skip
          rotate_left
          all_goals
            go_wp2_with fail
            go_ret
            exact ⟨_, rfl, by rw [HP.out]; exact HSF.out, HXF.out⟩
end Go.Proofs.YtjabgpejmnpamaaGreatDoor

namespace Go.Proofs.YtjabgpejmnpamaaGreatDoor
open Go.RowKit
theorem box_new2 (w : World) (o : Obj) (cs : Array Value) (t : TypeId) : BoxAt ((w.alloc o).alloc (.cells cs t)) (w.heap.size + 1) cs t := by
  have := BoxAt.new (w.alloc o) cs t
  rwa [World.size_alloc] at this
end Go.Proofs.YtjabgpejmnpamaaGreatDoor
