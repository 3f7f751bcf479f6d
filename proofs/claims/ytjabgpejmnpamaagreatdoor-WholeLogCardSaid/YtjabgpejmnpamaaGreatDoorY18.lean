/-
  Part 18 of the proof.
-/
import Derived.Test.YtjabgpejmnpamaaGreatDoorY16
import Derived.Shelf.Abstract
import Derived.OwnWalkIn
import Derived.LoopNIn
import Derived.LoopIn
import Derived.Maps.OwnIn
set_option linter.unusedVariables false
namespace Go.Proofs.YtjabgpejmnpamaaGreatDoor
open Go.RowKit Go.Shelf
set_option maxRecDepth 100000
attribute [local go_sem] wrapI_ub wrap8_ub unsigned8 xor_ub Oper.semAt_some
theorem wpListIn_loadR {F : Fence} {n : Nat} {P : Program} {ops : Array Oper} {rest : List Oper} {o : Oper} {a : Act} {w : World} {Q : Exit → Act → World → Prop} (ty : TypeId) (x : Operand) (ho : o.op = .load ty x)
    (hg : o.guard = none) {p v : Value} (hx : a.eval x = p) (hl : (Instr.loadAt ty p).run P w = .ok v w)
    (h : wpListIn F n P ops Q rest (a.put o.dst v) w) : wpListIn F n P ops Q (o :: rest) a w := by
  refine wpListIn_plain hg fun K hK => ?_
  unfold Oper.wpIn
  refine ⟨?_, ?_⟩
  · simp [Oper.about, ho]
  · rw [Oper.semAt_plain F _ _ (by rw [ho]; intro c hc'; cases hc')]
    unfold execOp
    simp only [ho, hx, Sem.run_bind, Sem.run_pure, Result.andThen_ok, hl]
    exact hK _ _ h
theorem BlksAt.below {w w' : World} {b off n cap B : Nat} {ls : List (List (BitVec 8))} (h : BlksAt w (.slice (some ⟨b, off, none⟩) n cap) ls) (e : Below B w w') (hb : b < B) : BlksAt w' (.slice (some ⟨b, off, none⟩) n cap) ls := by
  obtain ⟨b', off', cap', hv, hc, hbl, h⟩ := h
  have hv2 := hv
  injection hv with hv
  injection hv with hv
  injection hv with h1 h2
  subst h1 h2
  exact ⟨b, off, cap', hv2, hc, Nat.lt_of_lt_of_le hbl e.size, fun i hi => ⟨(h i hi).1, fun j hj => (Below.cell e (p := ⟨b, off + 8 * i + j, none⟩) hb).trans ((h i hi).2 j hj)⟩⟩
structure KeepX (N g : Nat) (W W' : World) : Prop where
  size : W.heap.size ≤ W'.heap.size
  same : ∀ k, k < N → k ≠ g → W'.heap[k]? = W.heap[k]?
theorem KeepX.trans {N g : Nat} {A B C : World} (h : KeepX N g A B) (k : KeepX N g B C) : KeepX N g A C := ⟨Nat.le_trans h.size k.size, fun i hi hg => (k.same i hi hg).trans (h.same i hi hg)⟩
theorem KeepX.cell {N g : Nat} {W W' : World} (h : KeepX N g W W') {k o : Nat} (hk : k < N) (hg : k ≠ g) : W'.cell? ⟨k, o, none⟩ = W.cell? ⟨k, o, none⟩ := World.cell?_of_block (a := ⟨k, o, none⟩) (h.same k hk hg)
theorem KeepX.ext {N g : Nat} {W W' : World} (h : Ext W W') (hN : N ≤ W.heap.size) : KeepX N g W W' := ⟨h.size, fun k hk _ => h.block k (Nat.lt_of_lt_of_le hk hN)⟩
theorem KeepX.put {N g : Nat} (W : World) (l : Nat) (o : Obj) (hl : N ≤ l) : KeepX N g W (W.putObj l o) := ⟨by simp, fun k hk _ => World.putObj_heap_other (by omega)⟩
theorem BlksAt.keep {w w' : World} {b off n cap N g : Nat} {ls : List (List (BitVec 8))} (h : BlksAt w (.slice (some ⟨b, off, none⟩) n cap) ls) (e : KeepX N g w w') (hb : b < N) (hg : b ≠ g) : BlksAt w' (.slice (some ⟨b, off, none⟩) n cap) ls := by
  obtain ⟨b', off', cap', hv, hc, hbl, h⟩ := h
  have hv2 := hv
  injection hv with hv
  injection hv with hv
  injection hv with h1 h2
  subst h1 h2
  exact ⟨b, off, cap', hv2, hc, Nat.lt_of_lt_of_le hbl e.size, fun i hi => ⟨(h i hi).1, fun j hj => (e.cell hb hg).trans ((h i hi).2 j hj)⟩⟩
def pickL (A B : List (BitVec 8)) (x : Nat) : List (BitVec 8) := if x = 0 then A else B
abbrev encK (A B : List (BitVec 8)) (x : Nat) : Array Value := #[.int .i64 (x : Int), arrV (pickL A B x)]
set_option maxHeartbeats 2000000 in
theorem back1_in (n : Nat) (hn : 1 ≤ n) (l g1 n₀ go b off cap : Nat) (A B : List (BitVec 8)) (hg1 : g1 < n₀) (hb : b < n₀) (ho1 : g1 ≠ go) (hob : b ≠ go) (J Jx : List Nat → World → Prop)
    (hY : ∀ pre x W, J pre W → pre.length < 2 → YieldAt Fence.wide (n - 1) Tryz.prog l (encK A B x) W fun e W' =>
      (e = .returned (.bool true) ∧ J (pre ++ [x]) W' ∧ KeepX n₀ go W W') ∨ (e = .returned (.bool false) ∧ Jx (pre ++ [x]) W'))
    (W : World) (hW : n₀ ≤ W.heap.size) (hc1 : W.cell? ⟨g1, 0, none⟩ = some (.slice (some ⟨b, off, none⟩) 2 cap)) (hB : BlksAt W (.slice (some ⟨b, off, none⟩) 2 cap) [A, B]) (h0 : J [] W) :
    CallsIn Fence.wide n Tryz.prog 141 #[.func (.yield l) #[] #[], .pointer (some ⟨g1, 0, none⟩)] W fun e W' => (∃ v, e = .returned v) ∧
      ((∃ ys, ys = [1, 0] ∧ J ys W') ∨ (∃ pre, True ∧ Jx pre W')) := by
  refine callsIn_of_wp Tryz.func141 rfl trivial ?_ rfl
  simp only [Tryz.ntmps141, List.size_toArray, List.length_cons, List.length_nil, Nat.reduceAdd, Nat.reduceSub, Array.replicate_succ, Array.replicate_zero, List.push_toArray, List.append_toArray, List.nil_append, List.cons_append]
  have hl1 : g1 < W.heap.size := by omega
  have hcap : 2 ≤ cap := by
    obtain ⟨_, _, _, hv, hc, _⟩ := hB
    injection hv with _ _ hv
    rw [hv]; exact hc
  have hld1 : (Instr.loadAt 76 (.pointer (some ⟨b, off + 8, none⟩))).run Tryz.prog W = .ok (arrV B) W := hB.load 1 (by simp)
  obtain ⟨fn, tmps, assign, body, hy, hR⟩ := hY [] 1 W h0 (by simp)
  have HB := Lib.hid hB
  clear hB
  have hy1 : (Instr.yield l #[.int .i64 1, arrV B]).run Tryz.prog W = .ok (.round l fn tmps assign body) W := hy
  clear hy
  gi_wp2
  refine wpIn_loop_rounds 3 ?_
  rw [roundsIn_succ]
  gi_wp2_with (refine wpListIn_loadR 76 _ rfl rfl rfl hld1 ?_)
  refine hR.mono ?_
  rintro e W3 (⟨rfl, hJ3, hk3⟩ | ⟨rfl, hJx3⟩)
  · have hc3 : W3.cell? ⟨g1, 0, none⟩ = some (.slice (some ⟨b, off, none⟩) 2 cap) := (hk3.cell hg1 ho1).trans hc1
    have hB3 := HB.out.keep hk3 hb hob
    have hld3 : (Instr.loadAt 76 (.pointer (some ⟨b, off, none⟩))).run Tryz.prog W3 = .ok (arrV A) W3 := hB3.load 0 (by simp)
    have hl3 : g1 < W3.heap.size := Nat.lt_of_lt_of_le hl1 hk3.size
    obtain ⟨fn2, tmps2, assign2, body2, hy2, hR2⟩ := hY [1] 0 W3 hJ3 (by simp)
    have hy3 : (Instr.yield l #[.int .i64 0, arrV A]).run Tryz.prog W3 = .ok (.round l fn2 tmps2 assign2 body2) W3 := hy2
    clear hy2 hB3 hld1 hy1 hc1
    gi_wp2
    rw [roundsIn_succ]
    gi_wp2_with (refine wpListIn_loadR 76 _ rfl rfl rfl hld3 ?_)
    refine hR2.mono ?_
    rintro e W4 (⟨rfl, hJ4, hk4⟩ | ⟨rfl, hJx4⟩)
    · clear hld3 hy3
      gi_wp2
      rw [roundsIn_succ]
      gi_wp2
      go_end0
      exact ⟨⟨_, rfl⟩, .inl ⟨_, rfl, hJ4⟩⟩
    · gi_wp2
      refine bodyPost_ret (results_none rfl _ _ _) rfl ?_
      exact ⟨⟨_, rfl⟩, .inr ⟨_, trivial, hJx4⟩⟩
  · gi_wp2
    refine bodyPost_ret (results_none rfl _ _ _) rfl ?_
    exact ⟨⟨_, rfl⟩, .inr ⟨_, trivial, hJx3⟩⟩
theorem back_stops (n : Nat) (hn : 1 ≤ n) (g1 go b off cap : Nat) (A B : List (BitVec 8)) (w : World) (hg1 : g1 < w.heap.size) (hb : b < w.heap.size) (ho1 : g1 ≠ go) (hob : b ≠ go)
    (hc1 : w.cell? ⟨g1, 0, none⟩ = some (.slice (some ⟨b, off, none⟩) 2 cap)) (hB : BlksAt w (.slice (some ⟨b, off, none⟩) 2 cap) [A, B]) :
    SeqStopsK Fence.wide n Tryz.prog 141 #[.pointer (some ⟨g1, 0, none⟩)] (encK A B) (KeepX w.heap.size go) (fun ys => ys = [1, 0]) (fun _ => True) 2 w := fun l J Jx W hW hJ _ hY h0 =>
  back1_in n hn l g1 w.heap.size go b off cap A B hg1 hb ho1 hob J Jx hY W hW.size ((hW.cell (p := ⟨g1, 0, none⟩) hg1).trans hc1) (hB.below hW hb) h0
theorem backward_any (ba : Option Addr) (bn bc : Nat) (w : World) :
    Calls Tryz.prog 93 #[.slice ba bn bc] w fun e w' => e = .returned (.func (.func 141) #[] #[.pointer (some ⟨w.heap.size, 0, none⟩)]) ∧ w' = w.alloc (.cells #[.slice ba bn bc] 111) := by
  go_enter Tryz.func93, Tryz.ntmps93
  go_wp2_with fail
  go_ret
  exact ⟨rfl, rfl⟩
theorem mk3b (w : World) : (Instr.makeSlice 111 (.int .i64 3) (.int .i64 3)).run Tryz.prog w = .ok (.slice (some ⟨w.heap.size, 0, none⟩) 3 3) (w.alloc (.cells ((zero8 ++ zero8 ++ zero8).map encB).toArray 76)) := by
  obtain ⟨i0, hi, hz0, hz1, hz2⟩ := info_parts infoK
  have h := run_make (P := Tryz.prog) w 111 76 i0 _ Tryz.underlying111 hi hz0 .i64 .i64 3 3 (by decide) (by decide) (by rw [hz2]; decide) (by decide)
  have e : madeCells (Value.agg #[.int .u8 0, .int .u8 0, .int .u8 0, .int .u8 0, .int .u8 0, .int .u8 0, .int .u8 0, .int .u8 0]).cells (Int.toNat 3 * 8) = ((zero8 ++ zero8 ++ zero8).map encB).toArray := by kernel_rfl
  rw [hz1, e] at h
  exact h
def OutAt (W : World) (g : Nat) (rows : List (List (BitVec 8))) : Prop := ∃ cs : Array Value, BoxAt W g cs 76 ∧ cs.size = 24 ∧ rows.length = 3 ∧ ∀ i (h : i < rows.length), rows[i].length = 8 ∧ ∀ j, j < 8 → cs[8 * i + j]? = some (encB (rows[i].getD j 0#8))
theorem OutAt.blks {W : World} {g : Nat} {rows : List (List (BitVec 8))} (h : OutAt W g rows) : BlksAt W (.slice (some ⟨g, 0, none⟩) 3 3) rows := by
  obtain ⟨cs, hb, hs, hl, h⟩ := h
  exact ⟨g, 0, 3, by rw [hl], by rw [hl]; exact Nat.le_refl _, hb.lt, fun i hi => ⟨(h i hi).1, fun j hj => by rw [Nat.zero_add]; exact hb.cell _ ((h i hi).2 j hj)⟩⟩
theorem box_own {β : Type} (B : Nat) {g : Nat} {cs : Array Value} {t : TypeId} : OwnFrom B (fun (_ : β) W => BoxAt W g cs t) := fun s X Y row hs hg hr => by
  refine BoxAt.grown hs hg (fun e => ?_)
  obtain ⟨_, o, ho, hc⟩ := hr g e.symm
  rw [show X.heap[g]? = _ from hs] at ho
  cases ho
  cases hc
theorem out_own {β : Type} (B : Nat) {g : Nat} (f : β → List (List (BitVec 8))) : OwnFrom B (fun (s : β) W => OutAt W g (f s)) := fun s X Y row hs hg hr => by
  obtain ⟨cs, hb, r⟩ := hs
  exact ⟨cs, box_own (β := Unit) B () X Y row hb hg hr, r⟩
theorem arr_own {β : Type} (B : Nat) {g : Nat} {l : List (BitVec 8)} : OwnFrom B (fun (_ : β) W => ArrAt W g l) := fun s X Y row hs hg hr => ⟨box_own (β := Unit) B () X Y row hs.1 hg hr, hs.2⟩
theorem size_own {β : Type} (B N : Nat) : OwnFrom B (fun (_ : β) (W : World) => N ≤ W.heap.size) := fun s X Y row hs hg hr => Nat.le_trans hs hg.size
def DefAt (l : List Nat) (W : World) : Prop := ∀ D, D ∈ l → W.heap[D]? = some (.deferred (some []))
theorem def_own {β : Type} {B : Nat} {l : List Nat} (hl : ∀ D, D ∈ l → D < B) : OwnFrom B (fun (_ : β) W => DefAt l W) := fun s X Y row hs hg hr D hD =>
  (hg.block D (Array.getElem?_eq_some_iff.1 (hs D hD)).1 (fun e => by have := (hr _ e.symm).1; have := hl D hD; omega)).trans (hs D hD)
theorem DefAt.ext {l : List Nat} {W W' : World} (h : DefAt l W) (e : Ext W W') : DefAt l W' := fun D hD => (e.block D (Array.getElem?_eq_some_iff.1 (h D hD)).1).trans (h D hD)
theorem DefAt.other {l : List Nat} {W W' : World} {g : Nat} {cs : Array Value} {t : TypeId} (h : DefAt l W) (hs : ∀ k, k ≠ g → W'.heap[k]? = W.heap[k]?) (hg : BoxAt W g cs t) : DefAt l W' := fun D hD => (hs D (fun e => by
  have h1 := h D hD
  rw [e, show W.heap[g]? = _ from hg] at h1
  cases h1)).trans (h D hD)
theorem DefAt.cons {l : List Nat} {W : World} {D : Nat} (h : DefAt l W) (hD : W.heap[D]? = some (.deferred (some []))) : DefAt (D :: l) W := fun E hE => by
  rcases List.mem_cons.1 hE with rfl | hE
  · exact hD
  · exact h E hE
theorem DefAt.nil (W : World) : DefAt [] W := fun _ h => absurd h (by simp)
theorem below_putD {B : Nat} {w W : World} {D : Nat} {o : Obj} (h : Below B w W) (hD : B ≤ D) : Below B w (W.putObj D o) :=
  ⟨h.os, h.tape, h.output, by simpa using h.size, fun k hk => (World.putObj_heap_other (by omega)).trans (h.block k hk)⟩
def rowF (A B : List (BitVec 8)) (c : BitVec 8) (pre : List Nat) : List (BitVec 8) := pre.foldl (fun r x => fusedG (pickL A B x) r c) zero8
theorem rowF_len {A B : List (BitVec 8)} {c : BitVec 8} (hA : A.length = 8) (hB : B.length = 8) (pre : List Nat) : (rowF A B c pre).length = 8 := by
  unfold rowF
  have key : ∀ (pre : List Nat) (r : List (BitVec 8)), r.length = 8 → (pre.foldl (fun r x => fusedG (pickL A B x) r c) r).length = 8 := by
    intro pre
    induction pre with
    | nil => intro r hr; exact hr
    | cons x pre ih =>
      intro r hr
      refine ih _ ?_
      have hx : (pickL A B x).length = 8 := by unfold pickL; split <;> assumption
      rw [fusedG_length _ _ _ (by omega)]; exact hx
  exact key pre zero8 rfl
theorem rowF_snoc {A B : List (BitVec 8)} {c : BitVec 8} {pre : List Nat} {x : Nat} : rowF A B c (pre ++ [x]) = fusedG (pickL A B x) (rowF A B c pre) c := by
  unfold rowF; rw [List.foldl_append]; rfl
theorem keeps_ext {W W' : World} (e : Ext W W') : KeepsOthers W W' := ⟨e.size, fun k o h _ => (e.block k (Array.getElem?_eq_some_iff.1 h).1).trans h⟩
theorem arrc_below {B : Nat} {w0 : World} {b : Nat} (hb : B ≤ b) : ∀ (vs : List Value) (o : Nat) (w : World), Below B w0 w → Below B w0 (w.setCells b o vs)
  | [], _, _, h => h
  | v :: r, o, w, h => by rw [World.setCells]; exact arrc_below hb r _ _ (bel_set h hb o v)
theorem wpList_store_arrP {ops : Array Oper} {rest : List Oper} {o : Oper} {a : Act} {w : World} {Q : Exit → Act → World → Prop} (x y : Operand) (ho : o.op = .store 76 x y)
    (hw : Region.wanted o (yielded ops a.tmps) = true) {g f : Nat} {cs : Array Value} {t : TypeId} {l : List (BitVec 8)} (hx : a.eval x = .pointer (some ⟨g, f, none⟩)) (hy : a.eval y = arrV l) (hb : BoxAt w g cs t) (hl : l.length = 8) (hf : f + 8 ≤ cs.size)
    (h : ∀ w' cs', (∀ k, k ≠ g → w'.heap[k]? = w.heap[k]?) → (∀ B w0, Below B w0 w → B ≤ g → Below B w0 w') → BoxAt w' g cs' t → cs'.size = cs.size → (∀ j, j < 8 → cs'[f + j]? = some (encB (l.getD j 0#8))) → (∀ i, i < f ∨ f + 8 ≤ i → cs'[i]? = cs[i]?) → w'.heap.size = w.heap.size → wpList Tryz.prog ops Q rest (a.put o.dst undef) w') : wpList Tryz.prog ops Q (o :: rest) a w := by
  refine wpList_step fun K hK => ?_
  rw [if_pos hw]
  have hs : ((l.map encB).toArray).size = 8 := by simp [hl]
  have hrun := run_storeAt_mid (P := Tryz.prog) w g f 76 (l.map encB).toArray (fun j hj => ⟨by
    obtain ⟨v, hv⟩ : ∃ v, cs[f + j]? = some v := ⟨_, Array.getElem?_eq_getElem (by omega)⟩
    rw [hb.cell _ hv]; rfl, hb.free _⟩) (by rw [hs]; kernel_rfl) (by simp [Value.oneCell'])
  obtain ⟨cs', h1, h2, h3, h5, h4⟩ := arrc_box (l.map encB) f w cs hb (by simp [hl]; omega)
  unfold Oper.wp execOp
  simp only [ho, hx, hy, Sem.run_bind, Sem.run_pure, Result.andThen_ok, hrun]
  refine hK _ _ (h _ cs' (fun k hk => arrc_other _ _ _ k hk) (fun B w0 hb0 hB => arrc_below hB _ _ _ hb0) h1 h2 (fun j hj => ?_) (fun i hi => ?_) (arrc_size _ _ _))
  · rw [h4 j (by simp [hl]; exact hj), List.getElem?_map, List.getElem?_eq_getElem (by omega), getD_in (by omega)]
    rfl
  · rcases hi with hi | hi
    · exact h3 i hi
    · exact h5 i (by simp [hl]; exact hi)
theorem wpListIn_store_arr {F : Fence} {n : Nat} {ops : Array Oper} {rest : List Oper} {o : Oper} {a : Act} {w : World} {Q : Exit → Act → World → Prop} (x y : Operand) (ho : o.op = .store 76 x y)
    (hgd : o.guard = none) {g : Nat} {l l' : List (BitVec 8)} (hx : a.eval x = .pointer (some ⟨g, 0, none⟩)) (hy : a.eval y = arrV l') (hb : ArrAt w g l) (hl : l'.length = 8)
    (h : ∀ w', (∀ k, k ≠ g → w'.heap[k]? = w.heap[k]?) → (∀ B w0, Below B w0 w → B ≤ g → Below B w0 w') → ArrAt w' g l' → w'.heap.size = w.heap.size → wpListIn F n Tryz.prog ops Q rest (a.put o.dst undef) w') : wpListIn F n Tryz.prog ops Q (o :: rest) a w := by
  refine wpListIn_plain hgd fun K hK => ?_
  have hs : ((l'.map encB).toArray).size = 8 := by simp [hl]
  have hrun := run_storeAt_mid (P := Tryz.prog) w g 0 76 (l'.map encB).toArray (fun j hj => ⟨by rw [Nat.zero_add, hb.cell j (by omega)]; rfl, by rw [Nat.zero_add]; exact hb.free j⟩) (by rw [hs]; kernel_rfl) (by simp [Value.oneCell'])
  unfold Oper.wpIn
  refine ⟨by simp [Oper.about, ho], ?_⟩
  rw [Oper.semAt_plain F _ _ (by rw [ho]; intro c hc'; cases hc')]
  unfold execOp
  simp only [ho, hx, hy, Sem.run_bind, Sem.run_pure, Result.andThen_ok, hrun]
  refine hK _ _ (h _ (fun k hk => arrc_other _ _ _ k hk) (fun B w0 hb0 hB => arrc_below hB _ _ _ hb0) ⟨?_, hl⟩ (arrc_size _ _ _))
  have := arrc_all hb.1 (l'.map encB) (by simp [hl, hb.2])
  simpa using this
theorem OutAt.put {W' : World} {g j : Nat} {rows : List (List (BitVec 8))} {l : List (BitVec 8)} {cs cs' : Array Value} (hz : cs.size = 24) (hr : rows.length = 3) (hce : ∀ i (h : i < rows.length), rows[i].length = 8 ∧ ∀ k, k < 8 → cs[8 * i + k]? = some (encB (rows[i].getD k 0#8)))
    (hl : l.length = 8) (hb : BoxAt W' g cs' 76) (hz' : cs'.size = cs.size) (hn : ∀ k, k < 8 → cs'[8 * j + k]? = some (encB (l.getD k 0#8))) (ho : ∀ i, i < 8 * j ∨ 8 * j + 8 ≤ i → cs'[i]? = cs[i]?) : OutAt W' g (rows.set j l) := by
  refine ⟨cs', hb, hz'.trans hz, by rw [List.length_set]; exact hr, fun i hi => ?_⟩
  rw [List.length_set] at hi
  by_cases hij : j = i
  · subst hij
    simp only [List.getElem_set_self]
    exact ⟨hl, hn⟩
  · simp only [List.getElem_set_ne hij]
    refine ⟨(hce i hi).1, fun k hk => ?_⟩
    rw [ho _ (by omega)]
    exact (hce i hi).2 k hk
theorem if_len {A B : List (BitVec 8)} {x : Nat} (hA : A.length = 8) (hB : B.length = 8) : (pickL A B x).length = 8 := by unfold pickL; split <;> assumption
set_option maxHeartbeats 4000000 in
theorem pencode_any (b off cap : Nat) (A B : List (BitVec 8)) (w : World) (hB : BlksAt w (.slice (some ⟨b, off, none⟩) 2 cap) [A, B]) :
    Calls Tryz.prog 49 #[.slice (some ⟨b, off, none⟩) 2 cap] w fun e w' => ∃ g, e = .returned (.tuple #[.slice (some ⟨g, 0, none⟩) 3 3, .int .i64 0]) ∧ OutAt w' g [rowF A B (expG 0) [1, 0], rowF A B (expG 1) [1, 0], rowF A B (expG 2) [1, 0]] ∧ Below w.heap.size w w' := by
  have hbl : b < w.heap.size := by
    obtain ⟨_, _, _, hv, _, hbl, _⟩ := hB
    injection hv with hv
    injection hv with hv
    injection hv with h1
    rw [h1]; exact hbl
  have hA8 : A.length = 8 := by
    obtain ⟨_, _, _, hv, _, _, h⟩ := hB
    exact (h 0 (by simp)).1
  have hB8 : B.length = 8 := by
    obtain ⟨_, _, _, hv, _, _, h⟩ := hB
    exact (h 1 (by simp)).1
  have HBB := Lib.hid hB
  have HA8 := Lib.hid hA8
  have HB8 := Lib.hid hB8
  clear hB hA8 hB8
  refine (callsIn_wide (n := 5)).1 ?_
  refine callsIn_of_wp_marks Tryz.func49 rfl trivial ?_ rfl
  simp only [Tryz.ntmps49, List.size_toArray, List.length_cons, List.length_nil, Nat.reduceAdd, Nat.reduceSub, Array.replicate_succ, Array.replicate_zero, List.push_toArray, List.append_toArray, List.nil_append, List.cons_append]
  have hmk3 := mk3b
  gi_wp2
  have hO0 : OutAt (w.alloc (.cells (List.map encB zero8 ++ (List.map encB zero8 ++ List.map encB zero8)).toArray 76)) w.heap.size [zero8, zero8, zero8] := by
    refine ⟨_, BoxAt.new _ _ _, rfl, rfl, fun i hi => ?_⟩
    have h3 : i < 3 := hi
    rcases (by omega : i = 0 ∨ i = 1 ∨ i = 2) with rfl | rfl | rfl
    · exact ⟨rfl, fun j hj => by
        rcases (by omega : j = 0 ∨ j = 1 ∨ j = 2 ∨ j = 3 ∨ j = 4 ∨ j = 5 ∨ j = 6 ∨ j = 7) with rfl | rfl | rfl | rfl | rfl | rfl | rfl | rfl <;> rfl⟩
    · exact ⟨rfl, fun j hj => by
        rcases (by omega : j = 0 ∨ j = 1 ∨ j = 2 ∨ j = 3 ∨ j = 4 ∨ j = 5 ∨ j = 6 ∨ j = 7) with rfl | rfl | rfl | rfl | rfl | rfl | rfl | rfl <;> rfl⟩
    · exact ⟨rfl, fun j hj => by
        rcases (by omega : j = 0 ∨ j = 1 ∨ j = 2 ∨ j = 3 ∨ j = 4 ∨ j = 5 ∨ j = 6 ∨ j = 7) with rfl | rfl | rfl | rfl | rfl | rfl | rfl | rfl <;> rfl⟩
  have b4 := BoxAt.new (w.alloc (.cells (List.map encB zero8 ++ (List.map encB zero8 ++ List.map encB zero8)).toArray 76)) #[.slice (some ⟨w.heap.size, 0, none⟩) 3 3] 111
  rw [World.size_alloc] at b4
  have hB0 : Below w.heap.size w ((w.alloc (.cells (List.map encB zero8 ++ (List.map encB zero8 ++ List.map encB zero8)).toArray 76)).alloc (.cells #[.slice (some ⟨w.heap.size, 0, none⟩) 3 3] 111)) := (Ext.alloc _ _).trans (Ext.alloc _ _)
  have hO1 : OutAt ((w.alloc (.cells (List.map encB zero8 ++ (List.map encB zero8 ++ List.map encB zero8)).toArray 76)).alloc (.cells #[.slice (some ⟨w.heap.size, 0, none⟩) 3 3] 111)) w.heap.size [zero8, zero8, zero8] := by
    obtain ⟨cs, hb, r⟩ := hO0
    exact ⟨cs, hb.ext (Ext.alloc _ _), r⟩
  generalize ((w.alloc (.cells (List.map encB zero8 ++ (List.map encB zero8 ++ List.map encB zero8)).toArray 76)).alloc (.cells #[.slice (some ⟨w.heap.size, 0, none⟩) 3 3] 111)) = W0 at *
  obtain ⟨g, hg⟩ : ∃ g, w.heap.size = g := ⟨_, rfl⟩
  rw [hg] at b4 hO1 hbl hB0 ⊢
  have HG := Lib.hid hg
  have HO0 := Lib.hid hO1
  have H40 := Lib.hid b4
  have HB0 := Lib.hid hB0
  have HD0 := Lib.hid (DefAt.nil W0)
  clear hO0 hO1 b4 hB0 hmk3 hg
  refine wpIn_loop_rounds 4 ?_
  -- row 0
  rw [roundsIn_succ]
  gi_wp2_with (refine ⟨trivial, ?_⟩; gi_at_call 93; refine (callsIn_wide.2 (backward_any _ _ _ _)).mono ?_; rintro e w1 ⟨rfl, rfl⟩)
  have e0 : Ext W0 ((W0.alloc (.cells #[.int .i64 0] 3)).alloc (.cells #[.slice (some ⟨b, off, none⟩) 2 cap] 111)) := (Ext.alloc _ _).trans (Ext.alloc _ _)
  have h50 : BoxAt ((W0.alloc (.cells #[.int .i64 0] 3)).alloc (.cells #[.slice (some ⟨b, off, none⟩) 2 cap] 111)) W0.heap.size #[.int .i64 0] 3 := (BoxAt.new _ _ _).ext (Ext.alloc _ _)
  have hx0 := BoxAt.new (W0.alloc (.cells #[.int .i64 0] 3)) #[.slice (some ⟨b, off, none⟩) 2 cap] 111
  rw [World.size_alloc] at hx0
  have HOa0 := Lib.hid ((by obtain ⟨cs, hb, r⟩ := HO0.out; exact ⟨cs, hb.ext e0, r⟩ : OutAt _ g [zero8, zero8, zero8]))
  have H4a0 := Lib.hid (H40.out.ext e0)
  have HBa0 := Lib.hid (Below.trans HB0.out (Below.mono e0 (by have := HB0.out.size; have := HG.out; omega)))
  have HDa0 := Lib.hid (HD0.out.ext e0)
  have hsz0 : ((W0.alloc (.cells #[.int .i64 0] 3)).alloc (.cells #[.slice (some ⟨b, off, none⟩) 2 cap] 111)).heap.size = W0.heap.size + 1 + 1 := by simp
  have hgs0 : g + 1 < W0.heap.size := H40.out.lt
  generalize ((W0.alloc (.cells #[.int .i64 0] 3)).alloc (.cells #[.slice (some ⟨b, off, none⟩) 2 cap] 111)) = V0 at *
  obtain ⟨p0, hp0⟩ : ∃ p, W0.heap.size = p := ⟨_, rfl⟩
  obtain ⟨q0, hq0⟩ : ∃ p, p0 + 1 = p := ⟨_, rfl⟩
  rw [hp0] at h50 hx0 hsz0 hgs0 ⊢
  rw [hq0] at hx0 hsz0 ⊢
  have hlx0 : q0 < V0.heap.size := by omega
  have HSZ0 := Lib.hid hsz0
  have hWV0 : W0.heap.size < V0.heap.size := by omega
  have hbw0 : b < V0.heap.size := by omega
  have HP0 := Lib.hid hp0
  clear hp0 e0
  refine wpIn_rangeFunc_ownH rfl (by decide) (gf := 141) (lb := #[.pointer (some ⟨q0, 0, none⟩)]) rfl trivial (enters_of Tryz.func141 (by kernel_rfl) rfl)
    (back_stops (5 - 1) (by decide) q0 g b off cap A B V0 hlx0 hbw0 (by omega) (by omega) (hx0.cell 0 rfl) (HBB.out.below HBa0.out hbl))
    KeepX.trans (fun V l o o' hl _ _ _ => KeepX.put V l o' hl) (Below.refl _ _) (fun _ => rfl)
    (fun pre W => ((((OutAt W g [rowF A B (expG 0) pre, zero8, zero8] ∧ BoxAt W (g + 1) #[.slice (some ⟨g, 0, none⟩) 3 3] 111) ∧ BoxAt W p0 #[.int .i64 0] 3) ∧ Below g w W) ∧ V0.heap.size ≤ W.heap.size) ∧ DefAt [] W)
    (fun _ _ _ => False)
    (OwnFrom.and (OwnFrom.and (OwnFrom.and (OwnFrom.and (OwnFrom.and (out_own _ _) (box_own _)) (box_own _)) (ownFrom_below (by have := HG.out; omega) (by omega))) (size_own _ _)) (def_own (fun D hD => Nat.lt_trans (Nat.lt_of_lt_of_le (Array.getElem?_eq_some_iff.1 (HD0.out D hD)).1 (Nat.le_refl _)) hWV0)))
    (fun _ _ _ _ _ hs _ _ => hs)
    ⟨⟨⟨⟨⟨HOa0.out, H4a0.out⟩, h50⟩, HBa0.out⟩, Nat.le_refl _⟩, HDa0.out⟩
    (fun x a' W => ∃ Bx, q0 < Bx ∧ ArrAt W Bx (pickL A B x) ∧ a' = { tmps := #[.slice (some ⟨b, off, none⟩) 2 cap, undef, .slice none 0 0, .int .i64 0, .pointer (some ⟨g + 1, 0, none⟩), .pointer (some ⟨p0, 0, none⟩), undef, .pointer (some ⟨Bx, 0, none⟩), .slice (some ⟨b, off, none⟩) 2 cap, .int .i64 2, .bool false, .bool false, .slice (some ⟨b, off, none⟩) 2 cap, .int .i64 2, .bool false, .bool false, .slice (some ⟨g, 0, none⟩) 3 3, .slice (some ⟨g, 0, none⟩) 3 3, .int .i64 3, .int .i64 0, .bool true, .int .i64 0, .slice (some ⟨b, off, none⟩) 2 cap, .func (.func 141) #[] #[.pointer (some ⟨q0, 0, none⟩)], .int .i64 (x : Int), arrV (pickL A B x), undef, undef, undef, undef, undef, undef, undef, undef, undef, undef, undef, undef, undef], defers := [] })
    (fun x a' s X Y row hs hg hr => by obtain ⟨Bx, h1, h2, h3⟩ := hs; exact ⟨Bx, h1, arr_own (β := Unit) _ () X Y row h2 hg hr, h3⟩)
    ?assign ?body ?done ?stop
  case assign =>
    rintro l pre x W K ⟨⟨⟨⟨⟨⟨cs, hcb, hcr⟩, h4⟩, h5⟩, hB⟩, hVW⟩, hDf⟩ hK
    have hnb : ArrAt (W.alloc (.cells #[.int .u8 0, .int .u8 0, .int .u8 0, .int .u8 0, .int .u8 0, .int .u8 0, .int .u8 0, .int .u8 0] 76)) W.heap.size zero8 := ArrAt.new W zero8 rfl
    have hxl := if_len (x := x) HA8.out HB8.out
    have eW : Ext W (W.alloc (.cells #[.int .u8 0, .int .u8 0, .int .u8 0, .int .u8 0, .int .u8 0, .int .u8 0, .int .u8 0, .int .u8 0] 76)) := Ext.alloc _ _
    have hWs : q0 < W.heap.size := by omega
    gi_wp2_with (refine wpListIn_store_arr _ _ rfl rfl rfl rfl hnb hxl ?_; intro w7 hs7 hbl7 ha7 hz7)
    have e7 : Ext W w7 := hbl7 _ _ eW (Nat.le_refl _)
    exact hK _ _ ((keeps_ext e7).from _) (KeepX.ext e7 hVW) ⟨⟨⟨⟨⟨⟨cs, hcb.ext e7, hcr⟩, h4.ext e7⟩, h5.ext e7⟩, hbl7 _ _ (Below.trans hB (Below.mono eW (by have := hcb.lt; omega))) (by have := hcb.lt; omega)⟩, Nat.le_trans hVW e7.size⟩, hDf.ext e7⟩ ⟨W.heap.size, hWs, ha7, rfl⟩
  case body =>
    rintro l pre x a' W hl ⟨r, hr⟩ ⟨⟨⟨⟨⟨⟨cs, hcb, hcz, hcl, hce⟩, h4⟩, h5⟩, hB⟩, hVW⟩, hDf⟩ ⟨Bx, hBx, hAx, rfl⟩ hlt
    have hblk : BlksAt W (.slice (some ⟨g, 0, none⟩) 3 3) [rowF A B (expG 0) pre, zero8, zero8] := OutAt.blks ⟨cs, hcb, hcz, hcl, hce⟩
    have hldo : ∀ w', Ext W w' → (Instr.loadAt 76 (.pointer (some ⟨g, 0, none⟩))).run Tryz.prog w' = .ok (arrV (rowF A B (expG 0) pre)) w' := fun w' e => by
      have h := (hblk.ext e).load 0 (by simp)
      exact h
    have hldx : ∀ w', Ext W w' → (Instr.loadAt 76 (.pointer (some ⟨Bx, 0, none⟩))).run Tryz.prog w' = .ok (arrV (pickL A B x)) w' := fun w' e => (hAx.ext e).load
    have hxl := if_len (x := x) HA8.out HB8.out
    have hcl8 := rowF_len (c := expG 0) HA8.out HB8.out pre
    have hfl : (fusedG (pickL A B x) (rowF A B (expG 0) pre) (expG 0)).length = 8 := by rw [fusedG_length _ _ _ (by omega)]; exact hxl
    have c4 : W.cell? ⟨g + 1, 0, none⟩ = some (.slice (some ⟨g, 0, none⟩) 3 3) := h4.cell 0 rfl
    have c5 : W.cell? ⟨p0, 0, none⟩ = some (.int .i64 0) := h5.cell 0 rfl
    have l4 := h4.lt
    have l5 := h5.lt
    have lg := hcb.lt
    have HCE := Lib.hid hce
    have HBL := Lib.hid hB
    have HCB := Lib.hid hcb
    clear hce hB hblk hcb
    gi_wp2_with fail
    refine wpIn_region_exq [(0, true), (1, true), (2, true), (3, true), (4, true), (5, true), (6, true), (7, true), (8, false), (9, false), (10, true), (11, false)] (by kernel_rfl) (by kernel_rfl) (by kernel_rfl) ?_
    iterate 2 ((first
     | refine exq_move rfl rfl (by rfl) (by rfl) ?_
     | refine exq_assign rfl rfl (by rfl) (by rfl) ?_
     | refine exq_pick_t rfl rfl (by rfl) (by rfl) (by rfl) ?_
     | refine exq_pick_f rfl rfl (by rfl) (by rfl) (by rfl) ?_
     | (apply exq_take rfl (by rfl)
        · intro w' hS
          have hSc := hS.cells
          (try simp only [World.size_drew, World.cell?_drew] at hSc)
          go_simp
          (try simp (disch := omega) only [i64_id, u64_id, ↓IntWalk.iteOmega, Int.tdiv_eq_ediv_of_nonneg, Int.tmod_eq_emod_of_nonneg])
          try rfl)
     | refine exq_pass rfl (by rfl) ?_); simp only [Act.put, setZa, setZ0, setZ1])
    (refine exq_load 76 rfl rfl (by rfl) (by rfl) hldx ?_; simp only [Act.put, setZa, setZ0, setZ1])
    iterate 3 ((first
     | refine exq_move rfl rfl (by rfl) (by rfl) ?_
     | refine exq_assign rfl rfl (by rfl) (by rfl) ?_
     | refine exq_pick_t rfl rfl (by rfl) (by rfl) (by rfl) ?_
     | refine exq_pick_f rfl rfl (by rfl) (by rfl) (by rfl) ?_
     | (apply exq_take rfl (by rfl)
        · intro w' hS
          have hSc := hS.cells
          (try simp only [World.size_drew, World.cell?_drew] at hSc)
          go_simp
          (try simp (disch := omega) only [i64_id, u64_id, ↓IntWalk.iteOmega, Int.tdiv_eq_ediv_of_nonneg, Int.tmod_eq_emod_of_nonneg])
          try rfl)
     | refine exq_pass rfl (by rfl) ?_); simp only [Act.put, setZa, setZ0, setZ1])
    (refine exq_load 76 rfl rfl (by rfl) (by rfl) hldo ?_; simp only [Act.put, setZa, setZ0, setZ1])
    iterate 1 ((first
     | refine exq_move rfl rfl (by rfl) (by rfl) ?_
     | refine exq_assign rfl rfl (by rfl) (by rfl) ?_
     | refine exq_pick_t rfl rfl (by rfl) (by rfl) (by rfl) ?_
     | refine exq_pick_f rfl rfl (by rfl) (by rfl) (by rfl) ?_
     | (apply exq_take rfl (by rfl)
        · intro w' hS
          have hSc := hS.cells
          (try simp only [World.size_drew, World.cell?_drew] at hSc)
          go_simp
          (try simp (disch := omega) only [i64_id, u64_id, ↓IntWalk.iteOmega, Int.tdiv_eq_ediv_of_nonneg, Int.tmod_eq_emod_of_nonneg])
          try rfl)
     | refine exq_pass rfl (by rfl) ?_); simp only [Act.put, setZa, setZ0, setZ1])
    (refine exq_do rfl (by rfl) (fun K hK => ?_)
     go_simp
     go_at_call 95
     refine (exp_any 0 (by decide) _).mono ?_
     rintro e w' ⟨rfl, rfl⟩
     refine hK _ _ (by first | (with_reducible exact Ext.refl _) | (with_reducible exact Ext.drew _)) ?_
     clear hK K
     (try simp only [Act.put, setZa, setZ0, setZ1]))
    (refine exq_do rfl (by rfl) (fun K hK => ?_)
     go_simp
     go_at_call 94
     refine (pfused_any _ _ _ _ hxl hcl8).mono ?_
     rintro e w9 ⟨rfl, hx9⟩
     have e9 : Ext W w9 := by first | exact hx9 | exact (Ext.drew _).trans hx9
     refine hK _ _ (by first | exact hx9 | exact e9) ?_
     clear hK K
     (try simp only [Act.put, setZa, setZ0, setZ1]))
    iterate 1 ((first
     | refine exq_move rfl rfl (by rfl) (by rfl) ?_
     | refine exq_assign rfl rfl (by rfl) (by rfl) ?_
     | refine exq_pick_t rfl rfl (by rfl) (by rfl) (by rfl) ?_
     | refine exq_pick_f rfl rfl (by rfl) (by rfl) (by rfl) ?_
     | (apply exq_take rfl (by rfl)
        · intro w' hS
          have hSc := hS.cells
          (try simp only [World.size_drew, World.cell?_drew] at hSc)
          go_simp
          (try simp (disch := omega) only [i64_id, u64_id, ↓IntWalk.iteOmega, Int.tdiv_eq_ediv_of_nonneg, Int.tmod_eq_emod_of_nonneg])
          try rfl)
     | refine exq_pass rfl (by rfl) ?_); simp only [Act.put, setZa, setZ0, setZ1])
    (refine exq_last rfl (by rfl) (by kernel_rfl) (fun K hK => ?_)
     refine wp_of_list rfl ?_
     refine wpList_store_arrP _ _ rfl (by rfl) rfl rfl (HCB.out.ext e9) hfl (by rw [hcz]; decide) ?_
     intro w10 cs10 hs10 hb10 hbb10 hz10 hn10 ho10 hsz10
     refine hK _ _ ?_
     clear hK K
     (try simp only [Act.put]))
    refine ⟨⟨by rw [hsz10]; exact e9.size, fun k o hk ho hnc => ?_⟩, ⟨by rw [hsz10]; exact e9.size, fun k hk hkg => ?_⟩, ⟨⟨⟨⟨⟨?_, ?_⟩, ?_⟩, ?_⟩, ?_⟩, ?_⟩⟩
    · rw [hs10 k (by omega)]; exact (e9.block k (Array.getElem?_eq_some_iff.1 ho).1).trans ho
    · rw [hs10 k hkg]; exact e9.block k (by omega)
    · rw [rowF_snoc]; exact OutAt.put (j := 0) hcz hcl HCE.out hfl hbb10 hz10 hn10 ho10
    · exact (hs10 _ (by omega)).trans (h4.ext e9)
    · exact (hs10 _ (by omega)).trans (h5.ext e9)
    · exact hb10 _ _ (Below.trans HBL.out (Below.mono e9 (by omega))) (Nat.le_refl _)
    · rw [hsz10]; exact Nat.le_trans hVW e9.size
    · exact (hDf.ext e9).other hs10 (HCB.out.ext e9)
  case stop =>
    rintro D c pre W _ _ h _
    exact h.elim
  case done =>
    rintro D0 ys W1 hD0 rfl ⟨⟨⟨⟨⟨HOn, H4n⟩, H5n⟩, HBn⟩, hVn0⟩, hDn0⟩ hK0
    have HO1 := Lib.hid HOn
    have H41 := Lib.hid H4n
    have HB1 := Lib.hid HBn
    have HK0 := Lib.hid hK0
    have HD1 := Lib.hid (DefAt.cons hDn0 hK0)
    have hDg0 : g + 1 < D0 := by have := HSZ0.out; omega
    clear HOn H4n H5n HBn hK0 hDn0 h50 hx0 HOa0 H4a0 HBa0
    have hWn0 : D0 < W1.heap.size := (Array.getElem?_eq_some_iff.1 HK0.out).1
    gi_wp2
    -- row 1
    rw [roundsIn_succ]
    gi_wp2_with (refine ⟨trivial, ?_⟩; gi_at_call 93; refine (callsIn_wide.2 (backward_any _ _ _ _)).mono ?_; rintro e w1 ⟨rfl, rfl⟩)
    have e1 : Ext W1 ((W1.alloc (.cells #[.int .i64 1] 3)).alloc (.cells #[.slice (some ⟨b, off, none⟩) 2 cap] 111)) := (Ext.alloc _ _).trans (Ext.alloc _ _)
    have h51 : BoxAt ((W1.alloc (.cells #[.int .i64 1] 3)).alloc (.cells #[.slice (some ⟨b, off, none⟩) 2 cap] 111)) W1.heap.size #[.int .i64 1] 3 := (BoxAt.new _ _ _).ext (Ext.alloc _ _)
    have hx1 := BoxAt.new (W1.alloc (.cells #[.int .i64 1] 3)) #[.slice (some ⟨b, off, none⟩) 2 cap] 111
    rw [World.size_alloc] at hx1
    have HOa1 := Lib.hid ((by obtain ⟨cs, hb, r⟩ := HO1.out; exact ⟨cs, hb.ext e1, r⟩ : OutAt _ g [rowF A B (expG 0) [1, 0], zero8, zero8]))
    have H4a1 := Lib.hid (H41.out.ext e1)
    have HBa1 := Lib.hid (Below.trans HB1.out (Below.mono e1 (by have := HB1.out.size; have := HG.out; omega)))
    have HDa1 := Lib.hid (HD1.out.ext e1)
    have hsz1 : ((W1.alloc (.cells #[.int .i64 1] 3)).alloc (.cells #[.slice (some ⟨b, off, none⟩) 2 cap] 111)).heap.size = W1.heap.size + 1 + 1 := by simp
    have hgs1 : g + 1 < W1.heap.size := H41.out.lt
    generalize ((W1.alloc (.cells #[.int .i64 1] 3)).alloc (.cells #[.slice (some ⟨b, off, none⟩) 2 cap] 111)) = V1 at *
    obtain ⟨p1, hp1⟩ : ∃ p, W1.heap.size = p := ⟨_, rfl⟩
    obtain ⟨q1, hq1⟩ : ∃ p, p1 + 1 = p := ⟨_, rfl⟩
    rw [hp1] at h51 hx1 hsz1 hgs1 ⊢
    rw [hq1] at hx1 hsz1 ⊢
    have hlx1 : q1 < V1.heap.size := by omega
    have HSZ1 := Lib.hid hsz1
    have hWV1 : W1.heap.size < V1.heap.size := by omega
    have hbw1 : b < V1.heap.size := by omega
    have HP1 := Lib.hid hp1
    clear hp1 e1
    refine wpIn_rangeFunc_ownH rfl (by decide) (gf := 141) (lb := #[.pointer (some ⟨q1, 0, none⟩)]) rfl trivial (enters_of Tryz.func141 (by kernel_rfl) rfl)
      (back_stops (5 - 1) (by decide) q1 g b off cap A B V1 hlx1 hbw1 (by omega) (by omega) (hx1.cell 0 rfl) (HBB.out.below HBa1.out hbl))
      KeepX.trans (fun V l o o' hl _ _ _ => KeepX.put V l o' hl) (Below.refl _ _) (fun _ => rfl)
      (fun pre W => ((((OutAt W g [rowF A B (expG 0) [1, 0], rowF A B (expG 1) pre, zero8] ∧ BoxAt W (g + 1) #[.slice (some ⟨g, 0, none⟩) 3 3] 111) ∧ BoxAt W p1 #[.int .i64 1] 3) ∧ Below g w W) ∧ V1.heap.size ≤ W.heap.size) ∧ DefAt [D0] W)
      (fun _ _ _ => False)
      (OwnFrom.and (OwnFrom.and (OwnFrom.and (OwnFrom.and (OwnFrom.and (out_own _ _) (box_own _)) (box_own _)) (ownFrom_below (by have := HG.out; omega) (by omega))) (size_own _ _)) (def_own (fun D hD => Nat.lt_trans (Nat.lt_of_lt_of_le (Array.getElem?_eq_some_iff.1 (HD1.out D hD)).1 (Nat.le_refl _)) hWV1)))
      (fun _ _ _ _ _ hs _ _ => hs)
      ⟨⟨⟨⟨⟨HOa1.out, H4a1.out⟩, h51⟩, HBa1.out⟩, Nat.le_refl _⟩, HDa1.out⟩
      (fun x a' W => ∃ Bx, q1 < Bx ∧ ArrAt W Bx (pickL A B x) ∧ a' = { tmps := #[.slice (some ⟨b, off, none⟩) 2 cap, undef, .slice none 0 0, .int .i64 0, .pointer (some ⟨g + 1, 0, none⟩), .pointer (some ⟨p1, 0, none⟩), undef, .pointer (some ⟨Bx, 0, none⟩), .slice (some ⟨b, off, none⟩) 2 cap, .int .i64 2, .bool false, .bool false, .slice (some ⟨b, off, none⟩) 2 cap, .int .i64 2, .bool false, .bool false, .slice (some ⟨g, 0, none⟩) 3 3, .slice (some ⟨g, 0, none⟩) 3 3, .int .i64 3, .int .i64 1, .bool true, .int .i64 1, .slice (some ⟨b, off, none⟩) 2 cap, .func (.func 141) #[] #[.pointer (some ⟨q1, 0, none⟩)], .int .i64 (x : Int), arrV (pickL A B x), undef, undef, undef, undef, undef, undef, undef, undef, undef, undef, undef, .int .i64 1, undef], defers := [] })
      (fun x a' s X Y row hs hg hr => by obtain ⟨Bx, h1, h2, h3⟩ := hs; exact ⟨Bx, h1, arr_own (β := Unit) _ () X Y row h2 hg hr, h3⟩)
      ?assign ?body ?done ?stop
    case assign =>
      rintro l pre x W K ⟨⟨⟨⟨⟨⟨cs, hcb, hcr⟩, h4⟩, h5⟩, hB⟩, hVW⟩, hDf⟩ hK
      have hnb : ArrAt (W.alloc (.cells #[.int .u8 0, .int .u8 0, .int .u8 0, .int .u8 0, .int .u8 0, .int .u8 0, .int .u8 0, .int .u8 0] 76)) W.heap.size zero8 := ArrAt.new W zero8 rfl
      have hxl := if_len (x := x) HA8.out HB8.out
      have eW : Ext W (W.alloc (.cells #[.int .u8 0, .int .u8 0, .int .u8 0, .int .u8 0, .int .u8 0, .int .u8 0, .int .u8 0, .int .u8 0] 76)) := Ext.alloc _ _
      have hWs : q1 < W.heap.size := by omega
      gi_wp2_with (refine wpListIn_store_arr _ _ rfl rfl rfl rfl hnb hxl ?_; intro w7 hs7 hbl7 ha7 hz7)
      have e7 : Ext W w7 := hbl7 _ _ eW (Nat.le_refl _)
      exact hK _ _ ((keeps_ext e7).from _) (KeepX.ext e7 hVW) ⟨⟨⟨⟨⟨⟨cs, hcb.ext e7, hcr⟩, h4.ext e7⟩, h5.ext e7⟩, hbl7 _ _ (Below.trans hB (Below.mono eW (by have := hcb.lt; omega))) (by have := hcb.lt; omega)⟩, Nat.le_trans hVW e7.size⟩, hDf.ext e7⟩ ⟨W.heap.size, hWs, ha7, rfl⟩
    case body =>
      rintro l pre x a' W hl ⟨r, hr⟩ ⟨⟨⟨⟨⟨⟨cs, hcb, hcz, hcl, hce⟩, h4⟩, h5⟩, hB⟩, hVW⟩, hDf⟩ ⟨Bx, hBx, hAx, rfl⟩ hlt
      have hblk : BlksAt W (.slice (some ⟨g, 0, none⟩) 3 3) [rowF A B (expG 0) [1, 0], rowF A B (expG 1) pre, zero8] := OutAt.blks ⟨cs, hcb, hcz, hcl, hce⟩
      have hldo : ∀ w', Ext W w' → (Instr.loadAt 76 (.pointer (some ⟨g, 8, none⟩))).run Tryz.prog w' = .ok (arrV (rowF A B (expG 1) pre)) w' := fun w' e => by
        have h := (hblk.ext e).load 1 (by simp)
        exact h
      have hldx : ∀ w', Ext W w' → (Instr.loadAt 76 (.pointer (some ⟨Bx, 0, none⟩))).run Tryz.prog w' = .ok (arrV (pickL A B x)) w' := fun w' e => (hAx.ext e).load
      have hxl := if_len (x := x) HA8.out HB8.out
      have hcl8 := rowF_len (c := expG 1) HA8.out HB8.out pre
      have hfl : (fusedG (pickL A B x) (rowF A B (expG 1) pre) (expG 1)).length = 8 := by rw [fusedG_length _ _ _ (by omega)]; exact hxl
      have c4 : W.cell? ⟨g + 1, 0, none⟩ = some (.slice (some ⟨g, 0, none⟩) 3 3) := h4.cell 0 rfl
      have c5 : W.cell? ⟨p1, 0, none⟩ = some (.int .i64 1) := h5.cell 0 rfl
      have l4 := h4.lt
      have l5 := h5.lt
      have lg := hcb.lt
      have HCE := Lib.hid hce
      have HBL := Lib.hid hB
      have HCB := Lib.hid hcb
      clear hce hB hblk hcb
      gi_wp2_with fail
      refine wpIn_region_exq [(0, true), (1, true), (2, true), (3, true), (4, true), (5, true), (6, true), (7, true), (8, false), (9, false), (10, true), (11, false)] (by kernel_rfl) (by kernel_rfl) (by kernel_rfl) ?_
      iterate 2 ((first
       | refine exq_move rfl rfl (by rfl) (by rfl) ?_
       | refine exq_assign rfl rfl (by rfl) (by rfl) ?_
       | refine exq_pick_t rfl rfl (by rfl) (by rfl) (by rfl) ?_
       | refine exq_pick_f rfl rfl (by rfl) (by rfl) (by rfl) ?_
       | (apply exq_take rfl (by rfl)
          · intro w' hS
            have hSc := hS.cells
            (try simp only [World.size_drew, World.cell?_drew] at hSc)
            go_simp
            (try simp (disch := omega) only [i64_id, u64_id, ↓IntWalk.iteOmega, Int.tdiv_eq_ediv_of_nonneg, Int.tmod_eq_emod_of_nonneg])
            try rfl)
       | refine exq_pass rfl (by rfl) ?_); simp only [Act.put, setZa, setZ0, setZ1])
      (refine exq_load 76 rfl rfl (by rfl) (by rfl) hldx ?_; simp only [Act.put, setZa, setZ0, setZ1])
      iterate 3 ((first
       | refine exq_move rfl rfl (by rfl) (by rfl) ?_
       | refine exq_assign rfl rfl (by rfl) (by rfl) ?_
       | refine exq_pick_t rfl rfl (by rfl) (by rfl) (by rfl) ?_
       | refine exq_pick_f rfl rfl (by rfl) (by rfl) (by rfl) ?_
       | (apply exq_take rfl (by rfl)
          · intro w' hS
            have hSc := hS.cells
            (try simp only [World.size_drew, World.cell?_drew] at hSc)
            go_simp
            (try simp (disch := omega) only [i64_id, u64_id, ↓IntWalk.iteOmega, Int.tdiv_eq_ediv_of_nonneg, Int.tmod_eq_emod_of_nonneg])
            try rfl)
       | refine exq_pass rfl (by rfl) ?_); simp only [Act.put, setZa, setZ0, setZ1])
      (refine exq_load 76 rfl rfl (by rfl) (by rfl) hldo ?_; simp only [Act.put, setZa, setZ0, setZ1])
      iterate 1 ((first
       | refine exq_move rfl rfl (by rfl) (by rfl) ?_
       | refine exq_assign rfl rfl (by rfl) (by rfl) ?_
       | refine exq_pick_t rfl rfl (by rfl) (by rfl) (by rfl) ?_
       | refine exq_pick_f rfl rfl (by rfl) (by rfl) (by rfl) ?_
       | (apply exq_take rfl (by rfl)
          · intro w' hS
            have hSc := hS.cells
            (try simp only [World.size_drew, World.cell?_drew] at hSc)
            go_simp
            (try simp (disch := omega) only [i64_id, u64_id, ↓IntWalk.iteOmega, Int.tdiv_eq_ediv_of_nonneg, Int.tmod_eq_emod_of_nonneg])
            try rfl)
       | refine exq_pass rfl (by rfl) ?_); simp only [Act.put, setZa, setZ0, setZ1])
      (refine exq_do rfl (by rfl) (fun K hK => ?_)
       go_simp
       go_at_call 95
       refine (exp_any 1 (by decide) _).mono ?_
       rintro e w' ⟨rfl, rfl⟩
       refine hK _ _ (by first | (with_reducible exact Ext.refl _) | (with_reducible exact Ext.drew _)) ?_
       clear hK K
       (try simp only [Act.put, setZa, setZ0, setZ1]))
      (refine exq_do rfl (by rfl) (fun K hK => ?_)
       go_simp
       go_at_call 94
       refine (pfused_any _ _ _ _ hxl hcl8).mono ?_
       rintro e w9 ⟨rfl, hx9⟩
       have e9 : Ext W w9 := by first | exact hx9 | exact (Ext.drew _).trans hx9
       refine hK _ _ (by first | exact hx9 | exact e9) ?_
       clear hK K
       (try simp only [Act.put, setZa, setZ0, setZ1]))
      iterate 1 ((first
       | refine exq_move rfl rfl (by rfl) (by rfl) ?_
       | refine exq_assign rfl rfl (by rfl) (by rfl) ?_
       | refine exq_pick_t rfl rfl (by rfl) (by rfl) (by rfl) ?_
       | refine exq_pick_f rfl rfl (by rfl) (by rfl) (by rfl) ?_
       | (apply exq_take rfl (by rfl)
          · intro w' hS
            have hSc := hS.cells
            (try simp only [World.size_drew, World.cell?_drew] at hSc)
            go_simp
            (try simp (disch := omega) only [i64_id, u64_id, ↓IntWalk.iteOmega, Int.tdiv_eq_ediv_of_nonneg, Int.tmod_eq_emod_of_nonneg])
            try rfl)
       | refine exq_pass rfl (by rfl) ?_); simp only [Act.put, setZa, setZ0, setZ1])
      (refine exq_last rfl (by rfl) (by kernel_rfl) (fun K hK => ?_)
       refine wp_of_list rfl ?_
       refine wpList_store_arrP _ _ rfl (by rfl) rfl rfl (HCB.out.ext e9) hfl (by rw [hcz]; decide) ?_
       intro w10 cs10 hs10 hb10 hbb10 hz10 hn10 ho10 hsz10
       refine hK _ _ ?_
       clear hK K
       (try simp only [Act.put]))
      refine ⟨⟨by rw [hsz10]; exact e9.size, fun k o hk ho hnc => ?_⟩, ⟨by rw [hsz10]; exact e9.size, fun k hk hkg => ?_⟩, ⟨⟨⟨⟨⟨?_, ?_⟩, ?_⟩, ?_⟩, ?_⟩, ?_⟩⟩
      · rw [hs10 k (by omega)]; exact (e9.block k (Array.getElem?_eq_some_iff.1 ho).1).trans ho
      · rw [hs10 k hkg]; exact e9.block k (by omega)
      · rw [rowF_snoc]; exact OutAt.put (j := 1) hcz hcl HCE.out hfl hbb10 hz10 hn10 ho10
      · exact (hs10 _ (by omega)).trans (h4.ext e9)
      · exact (hs10 _ (by omega)).trans (h5.ext e9)
      · exact hb10 _ _ (Below.trans HBL.out (Below.mono e9 (by omega))) (Nat.le_refl _)
      · rw [hsz10]; exact Nat.le_trans hVW e9.size
      · exact (hDf.ext e9).other hs10 (HCB.out.ext e9)
    case stop =>
      rintro D c pre W _ _ h _
      exact h.elim
    case done =>
      rintro D1 ys W2 hD1 rfl ⟨⟨⟨⟨⟨HOn, H4n⟩, H5n⟩, HBn⟩, hVn1⟩, hDn1⟩ hK1
      have HO2 := Lib.hid HOn
      have H42 := Lib.hid H4n
      have HB2 := Lib.hid HBn
      have HK1 := Lib.hid hK1
      have HD2 := Lib.hid (DefAt.cons hDn1 hK1)
      have hDg1 : g + 1 < D1 := by have := HSZ1.out; omega
      clear HOn H4n H5n HBn hK1 hDn1 h51 hx1 HOa1 H4a1 HBa1
      have hWn1 : D1 < W2.heap.size := (Array.getElem?_eq_some_iff.1 HK1.out).1
      gi_wp2
      -- row 2
      rw [roundsIn_succ]
      gi_wp2_with (refine ⟨trivial, ?_⟩; gi_at_call 93; refine (callsIn_wide.2 (backward_any _ _ _ _)).mono ?_; rintro e w1 ⟨rfl, rfl⟩)
      have e2 : Ext W2 ((W2.alloc (.cells #[.int .i64 2] 3)).alloc (.cells #[.slice (some ⟨b, off, none⟩) 2 cap] 111)) := (Ext.alloc _ _).trans (Ext.alloc _ _)
      have h52 : BoxAt ((W2.alloc (.cells #[.int .i64 2] 3)).alloc (.cells #[.slice (some ⟨b, off, none⟩) 2 cap] 111)) W2.heap.size #[.int .i64 2] 3 := (BoxAt.new _ _ _).ext (Ext.alloc _ _)
      have hx2 := BoxAt.new (W2.alloc (.cells #[.int .i64 2] 3)) #[.slice (some ⟨b, off, none⟩) 2 cap] 111
      rw [World.size_alloc] at hx2
      have HOa2 := Lib.hid ((by obtain ⟨cs, hb, r⟩ := HO2.out; exact ⟨cs, hb.ext e2, r⟩ : OutAt _ g [rowF A B (expG 0) [1, 0], rowF A B (expG 1) [1, 0], zero8]))
      have H4a2 := Lib.hid (H42.out.ext e2)
      have HBa2 := Lib.hid (Below.trans HB2.out (Below.mono e2 (by have := HB2.out.size; have := HG.out; omega)))
      have HDa2 := Lib.hid (HD2.out.ext e2)
      have hsz2 : ((W2.alloc (.cells #[.int .i64 2] 3)).alloc (.cells #[.slice (some ⟨b, off, none⟩) 2 cap] 111)).heap.size = W2.heap.size + 1 + 1 := by simp
      have hgs2 : g + 1 < W2.heap.size := H42.out.lt
      generalize ((W2.alloc (.cells #[.int .i64 2] 3)).alloc (.cells #[.slice (some ⟨b, off, none⟩) 2 cap] 111)) = V2 at *
      obtain ⟨p2, hp2⟩ : ∃ p, W2.heap.size = p := ⟨_, rfl⟩
      obtain ⟨q2, hq2⟩ : ∃ p, p2 + 1 = p := ⟨_, rfl⟩
      rw [hp2] at h52 hx2 hsz2 hgs2 ⊢
      rw [hq2] at hx2 hsz2 ⊢
      have hlx2 : q2 < V2.heap.size := by omega
      have HSZ2 := Lib.hid hsz2
      have hWV2 : W2.heap.size < V2.heap.size := by omega
      have hbw2 : b < V2.heap.size := by omega
      have HP2 := Lib.hid hp2
      clear hp2 e2
      refine wpIn_rangeFunc_ownH rfl (by decide) (gf := 141) (lb := #[.pointer (some ⟨q2, 0, none⟩)]) rfl trivial (enters_of Tryz.func141 (by kernel_rfl) rfl)
        (back_stops (5 - 1) (by decide) q2 g b off cap A B V2 hlx2 hbw2 (by omega) (by omega) (hx2.cell 0 rfl) (HBB.out.below HBa2.out hbl))
        KeepX.trans (fun V l o o' hl _ _ _ => KeepX.put V l o' hl) (Below.refl _ _) (fun _ => rfl)
        (fun pre W => ((((OutAt W g [rowF A B (expG 0) [1, 0], rowF A B (expG 1) [1, 0], rowF A B (expG 2) pre] ∧ BoxAt W (g + 1) #[.slice (some ⟨g, 0, none⟩) 3 3] 111) ∧ BoxAt W p2 #[.int .i64 2] 3) ∧ Below g w W) ∧ V2.heap.size ≤ W.heap.size) ∧ DefAt [D1, D0] W)
        (fun _ _ _ => False)
        (OwnFrom.and (OwnFrom.and (OwnFrom.and (OwnFrom.and (OwnFrom.and (out_own _ _) (box_own _)) (box_own _)) (ownFrom_below (by have := HG.out; omega) (by omega))) (size_own _ _)) (def_own (fun D hD => Nat.lt_trans (Nat.lt_of_lt_of_le (Array.getElem?_eq_some_iff.1 (HD2.out D hD)).1 (Nat.le_refl _)) hWV2)))
        (fun _ _ _ _ _ hs _ _ => hs)
        ⟨⟨⟨⟨⟨HOa2.out, H4a2.out⟩, h52⟩, HBa2.out⟩, Nat.le_refl _⟩, HDa2.out⟩
        (fun x a' W => ∃ Bx, q2 < Bx ∧ ArrAt W Bx (pickL A B x) ∧ a' = { tmps := #[.slice (some ⟨b, off, none⟩) 2 cap, undef, .slice none 0 0, .int .i64 0, .pointer (some ⟨g + 1, 0, none⟩), .pointer (some ⟨p2, 0, none⟩), undef, .pointer (some ⟨Bx, 0, none⟩), .slice (some ⟨b, off, none⟩) 2 cap, .int .i64 2, .bool false, .bool false, .slice (some ⟨b, off, none⟩) 2 cap, .int .i64 2, .bool false, .bool false, .slice (some ⟨g, 0, none⟩) 3 3, .slice (some ⟨g, 0, none⟩) 3 3, .int .i64 3, .int .i64 2, .bool true, .int .i64 2, .slice (some ⟨b, off, none⟩) 2 cap, .func (.func 141) #[] #[.pointer (some ⟨q2, 0, none⟩)], .int .i64 (x : Int), arrV (pickL A B x), undef, undef, undef, undef, undef, undef, undef, undef, undef, undef, undef, .int .i64 2, undef], defers := [] })
        (fun x a' s X Y row hs hg hr => by obtain ⟨Bx, h1, h2, h3⟩ := hs; exact ⟨Bx, h1, arr_own (β := Unit) _ () X Y row h2 hg hr, h3⟩)
        ?assign ?body ?done ?stop
      case assign =>
        rintro l pre x W K ⟨⟨⟨⟨⟨⟨cs, hcb, hcr⟩, h4⟩, h5⟩, hB⟩, hVW⟩, hDf⟩ hK
        have hnb : ArrAt (W.alloc (.cells #[.int .u8 0, .int .u8 0, .int .u8 0, .int .u8 0, .int .u8 0, .int .u8 0, .int .u8 0, .int .u8 0] 76)) W.heap.size zero8 := ArrAt.new W zero8 rfl
        have hxl := if_len (x := x) HA8.out HB8.out
        have eW : Ext W (W.alloc (.cells #[.int .u8 0, .int .u8 0, .int .u8 0, .int .u8 0, .int .u8 0, .int .u8 0, .int .u8 0, .int .u8 0] 76)) := Ext.alloc _ _
        have hWs : q2 < W.heap.size := by omega
        gi_wp2_with (refine wpListIn_store_arr _ _ rfl rfl rfl rfl hnb hxl ?_; intro w7 hs7 hbl7 ha7 hz7)
        have e7 : Ext W w7 := hbl7 _ _ eW (Nat.le_refl _)
        exact hK _ _ ((keeps_ext e7).from _) (KeepX.ext e7 hVW) ⟨⟨⟨⟨⟨⟨cs, hcb.ext e7, hcr⟩, h4.ext e7⟩, h5.ext e7⟩, hbl7 _ _ (Below.trans hB (Below.mono eW (by have := hcb.lt; omega))) (by have := hcb.lt; omega)⟩, Nat.le_trans hVW e7.size⟩, hDf.ext e7⟩ ⟨W.heap.size, hWs, ha7, rfl⟩
      case body =>
        rintro l pre x a' W hl ⟨r, hr⟩ ⟨⟨⟨⟨⟨⟨cs, hcb, hcz, hcl, hce⟩, h4⟩, h5⟩, hB⟩, hVW⟩, hDf⟩ ⟨Bx, hBx, hAx, rfl⟩ hlt
        have hblk : BlksAt W (.slice (some ⟨g, 0, none⟩) 3 3) [rowF A B (expG 0) [1, 0], rowF A B (expG 1) [1, 0], rowF A B (expG 2) pre] := OutAt.blks ⟨cs, hcb, hcz, hcl, hce⟩
        have hldo : ∀ w', Ext W w' → (Instr.loadAt 76 (.pointer (some ⟨g, 16, none⟩))).run Tryz.prog w' = .ok (arrV (rowF A B (expG 2) pre)) w' := fun w' e => by
          have h := (hblk.ext e).load 2 (by simp)
          exact h
        have hldx : ∀ w', Ext W w' → (Instr.loadAt 76 (.pointer (some ⟨Bx, 0, none⟩))).run Tryz.prog w' = .ok (arrV (pickL A B x)) w' := fun w' e => (hAx.ext e).load
        have hxl := if_len (x := x) HA8.out HB8.out
        have hcl8 := rowF_len (c := expG 2) HA8.out HB8.out pre
        have hfl : (fusedG (pickL A B x) (rowF A B (expG 2) pre) (expG 2)).length = 8 := by rw [fusedG_length _ _ _ (by omega)]; exact hxl
        have c4 : W.cell? ⟨g + 1, 0, none⟩ = some (.slice (some ⟨g, 0, none⟩) 3 3) := h4.cell 0 rfl
        have c5 : W.cell? ⟨p2, 0, none⟩ = some (.int .i64 2) := h5.cell 0 rfl
        have l4 := h4.lt
        have l5 := h5.lt
        have lg := hcb.lt
        have HCE := Lib.hid hce
        have HBL := Lib.hid hB
        have HCB := Lib.hid hcb
        clear hce hB hblk hcb
        gi_wp2_with fail
        refine wpIn_region_exq [(0, true), (1, true), (2, true), (3, true), (4, true), (5, true), (6, true), (7, true), (8, false), (9, false), (10, true), (11, false)] (by kernel_rfl) (by kernel_rfl) (by kernel_rfl) ?_
        iterate 2 ((first
         | refine exq_move rfl rfl (by rfl) (by rfl) ?_
         | refine exq_assign rfl rfl (by rfl) (by rfl) ?_
         | refine exq_pick_t rfl rfl (by rfl) (by rfl) (by rfl) ?_
         | refine exq_pick_f rfl rfl (by rfl) (by rfl) (by rfl) ?_
         | (apply exq_take rfl (by rfl)
            · intro w' hS
              have hSc := hS.cells
              (try simp only [World.size_drew, World.cell?_drew] at hSc)
              go_simp
              (try simp (disch := omega) only [i64_id, u64_id, ↓IntWalk.iteOmega, Int.tdiv_eq_ediv_of_nonneg, Int.tmod_eq_emod_of_nonneg])
              try rfl)
         | refine exq_pass rfl (by rfl) ?_); simp only [Act.put, setZa, setZ0, setZ1])
        (refine exq_load 76 rfl rfl (by rfl) (by rfl) hldx ?_; simp only [Act.put, setZa, setZ0, setZ1])
        iterate 3 ((first
         | refine exq_move rfl rfl (by rfl) (by rfl) ?_
         | refine exq_assign rfl rfl (by rfl) (by rfl) ?_
         | refine exq_pick_t rfl rfl (by rfl) (by rfl) (by rfl) ?_
         | refine exq_pick_f rfl rfl (by rfl) (by rfl) (by rfl) ?_
         | (apply exq_take rfl (by rfl)
            · intro w' hS
              have hSc := hS.cells
              (try simp only [World.size_drew, World.cell?_drew] at hSc)
              go_simp
              (try simp (disch := omega) only [i64_id, u64_id, ↓IntWalk.iteOmega, Int.tdiv_eq_ediv_of_nonneg, Int.tmod_eq_emod_of_nonneg])
              try rfl)
         | refine exq_pass rfl (by rfl) ?_); simp only [Act.put, setZa, setZ0, setZ1])
        (refine exq_load 76 rfl rfl (by rfl) (by rfl) hldo ?_; simp only [Act.put, setZa, setZ0, setZ1])
        iterate 1 ((first
         | refine exq_move rfl rfl (by rfl) (by rfl) ?_
         | refine exq_assign rfl rfl (by rfl) (by rfl) ?_
         | refine exq_pick_t rfl rfl (by rfl) (by rfl) (by rfl) ?_
         | refine exq_pick_f rfl rfl (by rfl) (by rfl) (by rfl) ?_
         | (apply exq_take rfl (by rfl)
            · intro w' hS
              have hSc := hS.cells
              (try simp only [World.size_drew, World.cell?_drew] at hSc)
              go_simp
              (try simp (disch := omega) only [i64_id, u64_id, ↓IntWalk.iteOmega, Int.tdiv_eq_ediv_of_nonneg, Int.tmod_eq_emod_of_nonneg])
              try rfl)
         | refine exq_pass rfl (by rfl) ?_); simp only [Act.put, setZa, setZ0, setZ1])
        (refine exq_do rfl (by rfl) (fun K hK => ?_)
         go_simp
         go_at_call 95
         refine (exp_any 2 (by decide) _).mono ?_
         rintro e w' ⟨rfl, rfl⟩
         refine hK _ _ (by first | (with_reducible exact Ext.refl _) | (with_reducible exact Ext.drew _)) ?_
         clear hK K
         (try simp only [Act.put, setZa, setZ0, setZ1]))
        (refine exq_do rfl (by rfl) (fun K hK => ?_)
         go_simp
         go_at_call 94
         refine (pfused_any _ _ _ _ hxl hcl8).mono ?_
         rintro e w9 ⟨rfl, hx9⟩
         have e9 : Ext W w9 := by first | exact hx9 | exact (Ext.drew _).trans hx9
         refine hK _ _ (by first | exact hx9 | exact e9) ?_
         clear hK K
         (try simp only [Act.put, setZa, setZ0, setZ1]))
        iterate 1 ((first
         | refine exq_move rfl rfl (by rfl) (by rfl) ?_
         | refine exq_assign rfl rfl (by rfl) (by rfl) ?_
         | refine exq_pick_t rfl rfl (by rfl) (by rfl) (by rfl) ?_
         | refine exq_pick_f rfl rfl (by rfl) (by rfl) (by rfl) ?_
         | (apply exq_take rfl (by rfl)
            · intro w' hS
              have hSc := hS.cells
              (try simp only [World.size_drew, World.cell?_drew] at hSc)
              go_simp
              (try simp (disch := omega) only [i64_id, u64_id, ↓IntWalk.iteOmega, Int.tdiv_eq_ediv_of_nonneg, Int.tmod_eq_emod_of_nonneg])
              try rfl)
         | refine exq_pass rfl (by rfl) ?_); simp only [Act.put, setZa, setZ0, setZ1])
        (refine exq_last rfl (by rfl) (by kernel_rfl) (fun K hK => ?_)
         refine wp_of_list rfl ?_
         refine wpList_store_arrP _ _ rfl (by rfl) rfl rfl (HCB.out.ext e9) hfl (by rw [hcz]; decide) ?_
         intro w10 cs10 hs10 hb10 hbb10 hz10 hn10 ho10 hsz10
         refine hK _ _ ?_
         clear hK K
         (try simp only [Act.put]))
        refine ⟨⟨by rw [hsz10]; exact e9.size, fun k o hk ho hnc => ?_⟩, ⟨by rw [hsz10]; exact e9.size, fun k hk hkg => ?_⟩, ⟨⟨⟨⟨⟨?_, ?_⟩, ?_⟩, ?_⟩, ?_⟩, ?_⟩⟩
        · rw [hs10 k (by omega)]; exact (e9.block k (Array.getElem?_eq_some_iff.1 ho).1).trans ho
        · rw [hs10 k hkg]; exact e9.block k (by omega)
        · rw [rowF_snoc]; exact OutAt.put (j := 2) hcz hcl HCE.out hfl hbb10 hz10 hn10 ho10
        · exact (hs10 _ (by omega)).trans (h4.ext e9)
        · exact (hs10 _ (by omega)).trans (h5.ext e9)
        · exact hb10 _ _ (Below.trans HBL.out (Below.mono e9 (by omega))) (Nat.le_refl _)
        · rw [hsz10]; exact Nat.le_trans hVW e9.size
        · exact (hDf.ext e9).other hs10 (HCB.out.ext e9)
      case stop =>
        rintro D c pre W _ _ h _
        exact h.elim
      case done =>
        rintro D2 ys W3 hD2 rfl ⟨⟨⟨⟨⟨HOn, H4n⟩, H5n⟩, HBn⟩, hVn2⟩, hDn2⟩ hK2
        have HO3 := Lib.hid HOn
        have H43 := Lib.hid H4n
        have HB3 := Lib.hid HBn
        have HK2 := Lib.hid hK2
        have HD3 := Lib.hid (DefAt.cons hDn2 hK2)
        have hDg2 : g + 1 < D2 := by have := HSZ2.out; omega
        clear HOn H4n H5n HBn hK2 hDn2 h52 hx2 HOa2 H4a2 HBa2
        have hWn2 : D2 < W3.heap.size := (Array.getElem?_eq_some_iff.1 HK2.out).1
        gi_wp2
        rw [roundsIn_succ]
        have c4 : W3.cell? ⟨g + 1, 0, none⟩ = some (.slice (some ⟨g, 0, none⟩) 3 3) := H43.out.cell 0 rfl
        have l4 := H43.out.lt
        have n01 : D0 ≠ D1 := by have := HP1.out; omega
        have n02 : D0 ≠ D2 := by have := HP1.out; have := HP2.out; omega
        have n12 : D1 ≠ D2 := by have := HP2.out; omega
        have k2 : W3.heap[D2]? = some (.deferred (some [])) := HD3.out D2 (by simp)
        have k1 : (W3.putObj D2 (.deferred none)).heap[D1]? = some (.deferred (some [])) := (World.putObj_heap_other n12).trans (HD3.out D1 (by simp))
        have k0 : ((W3.putObj D2 (.deferred none)).putObj D1 (.deferred none)).heap[D0]? = some (.deferred (some [])) := (World.putObj_heap_other n01).trans ((World.putObj_heap_other n02).trans (HD3.out D0 (by simp)))
        have K2 := Lib.hid k2
        have K1 := Lib.hid k1
        have K0 := Lib.hid k0
        clear k0 k1 k2
        gi_wp2
        refine ⟨by simp, .inl ⟨_, _, rfl, run_takeDeferred K2.out, ?_⟩⟩
        refine ⟨by simp, .inl ⟨_, _, rfl, run_takeDeferred K1.out, ?_⟩⟩
        refine ⟨by simp, .inl ⟨_, _, rfl, run_takeDeferred K0.out, ?_⟩⟩
        obtain ⟨cs, hcb, hcr⟩ := HO3.out
        have hcg := hcb.lt
        have hgD : ∀ D, W3.heap[D]? = some (.deferred (some [])) → g ≠ D := fun D hD e => by
          subst e
          rw [show W3.heap[g]? = _ from hcb] at hD
          cases hD
        refine ⟨_, results_tmp2 rfl _ _ _, g, rfl, ⟨cs, ?_, hcr⟩, ?_⟩
        · exact (World.putObj_heap_other (hgD _ (HD3.out D0 (by simp)))).trans ((World.putObj_heap_other (hgD _ (HD3.out D1 (by simp)))).trans ((World.putObj_heap_other (hgD _ (HD3.out D2 (by simp)))).trans hcb))
        · have hw := HG.out
          rw [hw]
          exact below_putD (below_putD (below_putD HB3.out (by omega)) (by omega)) (by omega)
end Go.Proofs.YtjabgpejmnpamaaGreatDoor

namespace Go.Proofs.YtjabgpejmnpamaaGreatDoor
open Go.RowKit
theorem arrc_grown (b : Nat) : ∀ (vs : List Value) (o : Nat) (w : World), w.grownBy (w.setCells b o vs) (some b)
  | [], _, w => grown_refl w _
  | v :: r, o, w => by rw [World.setCells]; exact grown_trans (grown_set w b o v) (arrc_grown b r _ _)
structure Stored (w w' : World) (g : Nat) (cells : Array Value) (t : TypeId) : Prop where
  box : BoxAt w' g cells t
  grown : w.grownBy w' (some g)
  size : w'.heap.size = w.heap.size
  other : ∀ k, k ≠ g → w'.heap[k]? = w.heap[k]?
theorem Stored.bel {w w' w0 : World} {g B : Nat} {cells : Array Value} {t : TypeId} (h : Stored w w' g cells t) (hb : Below B w0 w) (hg : B ≤ g) : Below B w0 w' :=
  ⟨h.grown.os.trans hb.os, h.grown.tape.trans hb.tape, h.grown.output.trans hb.output, by have := h.size; have := hb.size; omega, fun k hk => (h.other k (by omega)).trans (hb.block k hk)⟩
theorem stored_all {w : World} {g : Nat} {cs cells : Array Value} {t : TypeId} (hb : BoxAt w g cs t) (hs : cs.size = cells.size) : Stored w (w.setCells g 0 cells.toList) g cells t := by
  refine ⟨?_, arrc_grown _ _ _ _, arrc_size _ _ _, fun k hk => arrc_other _ _ _ k hk⟩
  have := arrc_all hb cells.toList (by simpa using hs.symm)
  simpa using this
theorem run_store_box {P : Program} {w : World} {g : Nat} {ty t : TypeId} {cs cells : Array Value} (hb : BoxAt w g cs t) (hs : cs.size = cells.size) (hi : (P.info? ty).map (·.size) = some cells.size) (h1 : cells.all (·.oneCell') = true) :
    (Instr.storeAt ty (.pointer (some ⟨g, 0, none⟩)) (.agg cells)).run P w = .ok () (w.setCells g 0 cells.toList) :=
  run_storeAt_mid (P := P) w g 0 ty cells (fun j hj => ⟨by rw [Nat.zero_add]; obtain ⟨v, hv⟩ : ∃ v, cs[j]? = some v := ⟨_, Array.getElem?_eq_getElem (by rw [hs]; exact hj)⟩; rw [hb.cell j hv]; rfl, by rw [Nat.zero_add]; exact hb.free j⟩) hi h1
theorem wpList_store_box {P : Program} {ops : Array Oper} {rest : List Oper} {o : Oper} {a : Act} {w : World} {Q : Exit → Act → World → Prop} (ty : TypeId) (x y : Operand) (ho : o.op = .store ty x y)
    (hw : Region.wanted o (yielded ops a.tmps) = true) {g : Nat} {cs cells : Array Value} {t : TypeId} (hx : a.eval x = .pointer (some ⟨g, 0, none⟩)) (hy : a.eval y = .agg cells) (hb : BoxAt w g cs t) (hs : cs.size = cells.size) (hi : (P.info? ty).map (·.size) = some cells.size) (h1 : cells.all (·.oneCell') = true)
    (h : ∀ w', Stored w w' g cells t → wpList P ops Q rest (a.put o.dst undef) w') : wpList P ops Q (o :: rest) a w := by
  refine wpList_step fun K hK => ?_
  rw [if_pos hw]
  have hrun := run_store_box (P := P) hb hs hi h1
  unfold Oper.wp execOp
  simp only [ho, hx, hy, Sem.run_bind, Sem.run_pure, Result.andThen_ok, hrun]
  exact hK _ _ (h _ (stored_all hb hs))
theorem box_load {P : Program} {w : World} {g o : Nat} {ty t : TypeId} {cs : Array Value} {part : List Value} {d : TypeDesc} (h : BoxAt w g cs t) (hp : ∀ j v, part[j]? = some v → cs[o + j]? = some v) (hu : P.underlying ty = some d) (hd : d.isRow = true) (hi : (P.info? ty).map (·.size) = some part.length) :
    (Instr.loadAt ty (.pointer (some ⟨g, o, none⟩))).run P w = .ok (.agg part.toArray) w :=
  run_loadAt_mid w g o ty part d (fun j v hv => h.cell _ (hp j v hv)) hu hd hi
theorem box_result {P : Program} {w : World} {g : Nat} {ty t : TypeId} {cs : Array Value} {d : TypeDesc} (h : BoxAt w g cs t) (hu : P.underlying ty = some d) (hd : d.isRow = true) (hi : (P.info? ty).map (·.size) = some cs.size) :
    (loadVar ty ⟨g, 0, none⟩).run P w = .ok (.agg cs) w := by
  have := run_loadVar_mid (P := P) w g 0 ty cs.toList d (fun j v hv => by rw [Nat.zero_add]; exact h.cell j (by simpa using hv)) hu hd (by simpa using hi)
  simpa using this
end Go.Proofs.YtjabgpejmnpamaaGreatDoor

namespace Go.Proofs.YtjabgpejmnpamaaGreatDoor
open Go.RowKit
def bt (d : List (BitVec 8)) (i : Nat) : BitVec 8 := d.getD i 0#8
theorem bt8 {d : List (BitVec 8)} (h : d.length = 8) : d = [bt d 0, bt d 1, bt d 2, bt d 3, bt d 4, bt d 5, bt d 6, bt d 7] := by
  match d, h with
  | [a, b, c, e, f, g, i, j], _ => rfl
abbrev blkA (d : List (BitVec 8)) : Array Value := #[encB (bt d 0), encB (bt d 1), encB (bt d 2), encB (bt d 3), encB (bt d 4), encB (bt d 5), encB (bt d 6), encB (bt d 7)]
theorem blkA_of {d : List (BitVec 8)} (h : d.length = 8) : (d.map encB).toArray = blkA d := by
  match d, h with
  | [a, b, c, e, f, g, i, j], _ => rfl
abbrev pwA (x : Lg.PW) : Array Value := #[.int .i64 x.g, .int .i64 x.p, encU x.v, encB (bt x.d 0), encB (bt x.d 1), encB (bt x.d 2), encB (bt x.d 3), encB (bt x.d 4), encB (bt x.d 5), encB (bt x.d 6), encB (bt x.d 7)]
abbrev mvA (m : Lg.Mv) : Array Value := #[.int .i64 m.g, .int .i64 m.p, .int .i64 m.k, .int .i64 m.b]
abbrev recA (r : Lg.Rec) (wv mv nv : Value) : Array Value := #[encU r.gen, encU r.seq, wv, mv, nv]
abbrev recV (r : Lg.Rec) (wv mv nv : Value) : Value := .agg (recA r wv mv nv)
def pwrC (x : Lg.PW) : List Value := (pwA x).toList
def mvrC (m : Lg.Mv) : List Value := (mvA m).toList
theorem pwrC_len (x : Lg.PW) : (pwrC x).length = 11 := rfl
theorem mvrC_len (m : Lg.Mv) : (mvrC m).length = 4 := rfl
def PatW : Pat Lg.PW where
  size := 11
  holds := fun _ cs x => cs = pwrC x ∧ x.d.length = 8
  ext := fun _ h => h
  len := fun h => by rw [h.1]; rfl
def PatM : Pat Lg.Mv where
  size := 4
  holds := fun _ cs x => cs = mvrC x
  ext := fun _ h => h
  len := fun h => by rw [h]; rfl
structure RecIn (w : World) (wv mv nv : Value) (r : Lg.Rec) : Prop where
  ws : SliceR PatW w wv r.ws
  ms : SliceR PatM w mv r.ms
  note : SliceAt encB w nv r.note
theorem RecIn.ext {w w' : World} {wv mv nv : Value} {r : Lg.Rec} (h : RecIn w wv mv nv r) (e : Ext w w') : RecIn w' wv mv nv r := ⟨h.ws.ext e, h.ms.ext e, h.note.ext e⟩
theorem RecIn.shape {w : World} {wv mv nv : Value} {r : Lg.Rec} (h : RecIn w wv mv nv r) : ∃ a1 c1 a2 c2 a3 c3, wv = .slice a1 r.ws.length c1 ∧ mv = .slice a2 r.ms.length c2 ∧ nv = .slice a3 r.note.length c3 := by
  obtain ⟨a1, c1, e1⟩ := h.ws.shape
  obtain ⟨a2, c2, e2⟩ := h.ms.shape
  obtain ⟨a3, c3, e3⟩ := h.note.shape
  exact ⟨a1, c1, a2, c2, a3, c3, e1, e2, e3⟩
def PatR : Pat Lg.Rec where
  size := 5
  holds := fun w cs r => ∃ wv mv nv, cs = (recA r wv mv nv).toList ∧ RecIn w wv mv nv r
  ext := fun e ⟨wv, mv, nv, h1, h2⟩ => ⟨wv, mv, nv, h1, h2.ext e⟩
  len := fun ⟨_, _, _, h, _⟩ => by rw [h]; rfl
theorem SliceR.pw {w : World} {ad : Option Addr} {n cap : Nat} {l : List Lg.PW} (h : SliceR PatW w (.slice ad n cap) l) (i : Nat) (hi : i < l.length) :
    ∃ b off, ad = some ⟨b, off, none⟩ ∧ b < w.heap.size ∧ w.rangeAt b (off + i * 11) (pwA l[i]).toList ∧ l[i].d.length = 8 := by
  obtain ⟨b, off, h1, h2, cs, ⟨rfl, h3⟩, h4⟩ := h.at' i hi
  exact ⟨b, off, h1, h2, h4, h3⟩
theorem SliceR.mv {w : World} {ad : Option Addr} {n cap : Nat} {l : List Lg.Mv} (h : SliceR PatM w (.slice ad n cap) l) (i : Nat) (hi : i < l.length) :
    ∃ b off, ad = some ⟨b, off, none⟩ ∧ b < w.heap.size ∧ w.rangeAt b (off + i * 4) (mvA l[i]).toList := by
  obtain ⟨b, off, h1, h2, cs, rfl, h4⟩ := h.at' i hi
  exact ⟨b, off, h1, h2, h4⟩
theorem SliceR.rec {w : World} {ad : Option Addr} {n cap : Nat} {l : List Lg.Rec} (h : SliceR PatR w (.slice ad n cap) l) (i : Nat) (hi : i < l.length) :
    ∃ b off, ad = some ⟨b, off, none⟩ ∧ b < w.heap.size ∧ ∃ wv mv nv, w.rangeAt b (off + i * 5) (recA l[i] wv mv nv).toList ∧ RecIn w wv mv nv l[i] := by
  obtain ⟨b, off, h1, h2, cs, ⟨wv, mv, nv, rfl, h3⟩, h4⟩ := h.at' i hi
  exact ⟨b, off, h1, h2, wv, mv, nv, h4, h3⟩
theorem blk_of {l : List Lg.PW} {w : World} {v : Value} (h : SliceR PatW w v l) : ∀ i (h : i < l.length), l[i].d.length = 8 := by
  intro i hi
  obtain ⟨a, c, rfl⟩ := h.shape
  exact (h.pw i hi).choose_spec.choose_spec.2.2.2
theorem info_pw : (Tryz.prog.info? 94).map (·.size) = some 11 := by kernel_rfl
theorem info_mv : (Tryz.prog.info? 98).map (·.size) = some 4 := by kernel_rfl
theorem info_place : (Tryz.prog.info? 96).map (·.size) = some 2 := by kernel_rfl
theorem info_rec : (Tryz.prog.info? 52).map (·.size) = some 5 := by kernel_rfl
theorem info_blk : (Tryz.prog.info? 76).map (·.size) = some 8 := by kernel_rfl
theorem pw_load {w : World} {b o : Nat} {x : Lg.PW} (h : w.rangeAt b o (pwA x).toList) : (Instr.loadAt 94 (.pointer (some ⟨b, o, none⟩))).run Tryz.prog w = .ok (.agg (pwA x)) w :=
  run_loadAt_mid w b o _ (pwA x).toList _ h Tryz.underlying94 rfl info_pw
theorem mv_load {w : World} {b o : Nat} {x : Lg.Mv} (h : w.rangeAt b o (mvA x).toList) : (Instr.loadAt 98 (.pointer (some ⟨b, o, none⟩))).run Tryz.prog w = .ok (.agg (mvA x)) w :=
  run_loadAt_mid w b o _ (mvA x).toList _ h Tryz.underlying98 rfl info_mv
theorem rec_load {w : World} {b o : Nat} {r : Lg.Rec} {wv mv nv : Value} (h : w.rangeAt b o (recA r wv mv nv).toList) : (Instr.loadAt 52 (.pointer (some ⟨b, o, none⟩))).run Tryz.prog w = .ok (recV r wv mv nv) w :=
  run_loadAt_mid w b o _ (recA r wv mv nv).toList _ h Tryz.underlying52 rfl info_rec
theorem box_range {w : World} {g : Nat} {cs : Array Value} {t : TypeId} (h : BoxAt w g cs t) : w.rangeAt g 0 cs.toList := fun j v hj => by
  rw [Nat.zero_add]; exact h.cell j (by simpa using hj)
theorem Stored.fresh {w w' : World} {g : Nat} {z cells : Array Value} {t : TypeId} (h : Stored (w.alloc (.cells z t)) w' g cells t) (hg : g = w.heap.size) : Ext w w' := by
  subst hg
  exact h.bel (Ext.alloc w (.cells z t)) (Nat.le_refl _)
end Go.Proofs.YtjabgpejmnpamaaGreatDoor

namespace Go.Proofs.YtjabgpejmnpamaaGreatDoor
open Go.RowKit Go.Shelf
attribute [local go_sem] Oper.semAt_some
theorem run_min3 {P : Program} (w : World) (ts : Array TypeId) (t : TypeId) (a b : Int) :
    (Builtin.min_ ts t #[.int .i64 a, .int .i64 b]).run P w = .ok (.int .i64 (min a b)) w := by
  have e : (if b < a then b else a) = min a b := by split <;> omega
  have : (Builtin.min_ ts t #[.int .i64 a, .int .i64 b]).run P w = .ok (.int .i64 (if b < a then b else a)) w := rfl
  rw [this, e]
abbrev partV (b off m i : Nat) : Value := .slice (some ⟨b, off + 28 * i, none⟩) (min 28 (m - 28 * i)) (min 28 (m - 28 * i))
set_option maxRecDepth 100000 in
set_option maxHeartbeats 2000000 in
theorem chunk1_in (n : Nat) (hn : 1 ≤ n) (l g1 g2 n₀ b off m cap : Nat) (hm : m ≤ 100000) (hcap : m ≤ cap) (hg1 : g1 < n₀) (hg2 : g2 < n₀) (J Jx : List Nat → World → Prop)
    (hY : ∀ pre x W, J pre W → pre.length < (m + 27) / 28 → YieldAt Fence.wide (n - 1) Tryz.prog l #[partV b off m x] W fun e W' =>
      (e = .returned (.bool true) ∧ J (pre ++ [x]) W' ∧ Below n₀ W W') ∨ (e = .returned (.bool false) ∧ Jx (pre ++ [x]) W'))
    (hJa : ∀ (s : List Nat) (A B : World) (row : Option Nat), J s A → A.grownBy B row → (∀ r, row = some r → False) → J s B)
    (W : World) (hW : n₀ ≤ W.heap.size) (hc1 : W.cell? ⟨g1, 0, none⟩ = some (.slice (some ⟨b, off, none⟩) m cap)) (hc2 : W.cell? ⟨g2, 0, none⟩ = some (.int .i64 28)) (h0 : J [] W) :
    CallsIn Fence.wide n Tryz.prog 72 #[.func (.yield l) #[] #[], .pointer (some ⟨g1, 0, none⟩), .pointer (some ⟨g2, 0, none⟩)] W fun e W' => (∃ v, e = .returned v) ∧
      ((∃ ys, ys = List.range ((m + 27) / 28) ∧ J ys W') ∨ (∃ pre, True ∧ Jx pre W')) := by
  refine callsIn_of_wp Tryz.func72 rfl trivial ?_ rfl
  simp only [Tryz.ntmps72, List.size_toArray, List.length_cons, List.length_nil, Nat.reduceAdd, Nat.reduceSub, Array.replicate_succ, Array.replicate_zero, List.push_toArray, List.append_toArray, List.nil_append, List.cons_append]
  gi_wp2
  gi_loopw [4] (fun it wr => ∃ k : Nat, k ≤ (m + 27) / 28 ∧ it = .int .i64 ((28 * k : Nat) : Int) ∧ J (List.range k) wr ∧ Below n₀ W wr) (fun it _ => 100100 - (intOf it).toNat)
  case atStart => exact ⟨0, Nat.zero_le _, rfl, h0, Below.refl _ _⟩
  case round =>
    obtain ⟨k, hk, rfl, hJ, hB⟩ := hrel
    have d1 : wr.cell? ⟨g1, 0, none⟩ = some (.slice (some ⟨b, off, none⟩) m cap) := (hB.cell (p := ⟨g1, 0, none⟩) hg1).trans hc1
    have d2 : wr.cell? ⟨g2, 0, none⟩ = some (.int .i64 28) := (hB.cell (p := ⟨g2, 0, none⟩) hg2).trans hc2
    have hl1 : g1 < wr.heap.size := Nat.lt_of_lt_of_le hg1 (Nat.le_trans hW hB.size)
    have hl2 : g2 < wr.heap.size := Nat.lt_of_lt_of_le hg2 (Nat.le_trans hW hB.size)
    by_cases hlt : k < (m + 27) / 28
    · have hkm : 28 * k < m := by omega
      obtain ⟨q, hq⟩ : ∃ q, 28 * k = q := ⟨_, rfl⟩
      have hqI : (q : Int) < (m : Int) := by omega
      have hq0 : (0 : Int) ≤ (q : Int) := by omega
      have hqm : (q : Int) ≤ (m : Int) := by omega
      have hqc : (q : Int) ≤ (cap : Int) := by omega
      have hmc : (m : Int) ≤ (cap : Int) := by omega
      have hqne : ¬ (cap = q) := by omega
      have hqneI : ¬ ((cap : Int) = (q : Int)) := by omega
      have HQ := Lib.hid hq
      obtain ⟨c, hcq⟩ : ∃ c, min 28 (m - q) = c := ⟨_, rfl⟩
      rw [hq] at hkm ⊢
      clear hq
      gi_wp2
      refine wpIn_wide.2 ?_
      refine wp_region_ext [(0, true), (1, true), (2, true), (3, true), (4, true), (5, true), (6, true)] (by kernel_rfl) (by kernel_rfl) ?_
      have hmin1 : min (28 : Int) ((m - q : Nat) : Int) = (c : Int) := by omega
      have hmin2 : min (28 : Int) ((m : Int) - (q : Int)) = (c : Int) := by omega
      have hmin := fun (w : World) (ts : Array TypeId) (t : TypeId) (a b : Int) => run_min3 (P := Tryz.prog) w ts t a b
      iterate 7 ((first
       | refine ext_move rfl rfl (by rfl) (by rfl) ?_
       | refine ext_assign rfl rfl (by rfl) (by rfl) ?_
       | refine ext_pick_t rfl rfl (by rfl) (by rfl) (by rfl) ?_
       | refine ext_pick_f rfl rfl (by rfl) (by rfl) (by rfl) ?_
       | (apply ext_take rfl (by rfl)
          · intro w' hS
            have hSc := hS.cells
            (try simp only [World.size_drew, World.cell?_drew] at hSc)
            go_simp
            (try simp (disch := omega) only [i64_id, u64_id, ↓IntWalk.iteOmega, Int.tdiv_eq_ediv_of_nonneg, Int.tmod_eq_emod_of_nonneg])
            try rfl)
       | refine ext_pass rfl (by rfl) ?_); simp only [Act.put, setZa, setZ0, setZ1])
      refine ext_nil ?_
      have hJd := hJa _ _ _ none hJ (grown_drew (grown_refl wr none)) (fun r e => by cases e)
      obtain ⟨fn, tmps, assign, body, hy, hR⟩ := hY _ k wr.drew hJd (by rw [List.length_range]; exact hlt)
      have hpv : partV b off m k = .slice (some ⟨b, off + q, none⟩) c c := by unfold partV; rw [HQ.out, hcq]
      rw [hpv] at hy
      have d1' : wr.drew.cell? ⟨g1, 0, none⟩ = some (.slice (some ⟨b, off, none⟩) m cap) := by rw [World.cell?_drew]; exact d1
      have d2' : wr.drew.cell? ⟨g2, 0, none⟩ = some (.int .i64 28) := by rw [World.cell?_drew]; exact d2
      have hqc1 : (q : Int) + (c : Int) ≤ (cap : Int) := by omega
      have hqc2 : (q : Int) ≤ (q : Int) + (c : Int) := by omega
      have hqw1 : IntKind.i64.wrap ((q : Int) + (c : Int)) = ((q + c : Nat) : Int) := by rw [i64_wrap]; omega
      have hqw2 : Go.RowKit.wrap64 ((q : Int) + (c : Int)) = ((q + c : Nat) : Int) := by unfold Go.RowKit.wrap64; omega
      obtain ⟨z, hz⟩ : ∃ z, q + c = z := ⟨_, rfl⟩
      rw [hz] at hqw1 hqw2
      have hzq : q ≤ z := by omega
      have hzc : z ≤ cap := by omega
      have hzqI : (q : Int) ≤ (z : Int) := by omega
      have hzcI : (z : Int) ≤ (cap : Int) := by omega
      have hz0 : (0 : Int) ≤ (z : Int) := by omega
      have hzne : ¬ (z = q) := by omega
      have hzsub : z - q = c := by omega
      clear hmin1 hmin2 hmin hcq hpv hz hqc1 hqc2
      gi_wp2
      refine hR.mono ?_
      rintro e W3 (⟨rfl, hJ3, hk3⟩ | ⟨rfl, hJx3⟩)
      · have d3 : W3.cell? ⟨g2, 0, none⟩ = some (.int .i64 28) := (hk3.cell (p := ⟨g2, 0, none⟩) hg2).trans d2'
        clear d1 d2 d1' d2'
        gi_wp2
        go_roundw
        case rel => exact ⟨k + 1, by omega, by rw [show 28 * (k + 1) = q + 28 by have := HQ.out; omega]; simp, by rw [List.range_succ]; exact hJ3, hB.drew.trans hk3⟩
        case measure => simp [intOf]; omega
      · gi_wp2
        refine bodyPost_ret (results_none rfl _ _ _) rfl ?_
        exact ⟨⟨_, rfl⟩, .inr ⟨_, trivial, hJx3⟩⟩
    · have hkm : ¬ (28 * k < m) := by omega
      have hkN : k = (m + 27) / 28 := by omega
      obtain ⟨q, hq⟩ : ∃ q, 28 * k = q := ⟨_, rfl⟩
      rw [hq] at hkm ⊢
      have hqI : ¬ ((q : Int) < (m : Int)) := by omega
      have hJN : J (List.range ((m + 27) / 28)) wr := by rw [← hkN]; exact hJ
      clear hq hkN
      gi_wp2
      go_end0
      first | exact ⟨⟨_, rfl⟩, .inl hJN⟩ | exact .inl hJN | exact ⟨⟨_, rfl⟩, .inl ⟨_, rfl, hJN⟩⟩
theorem chunk_stops (n : Nat) (hn : 1 ≤ n) (g1 g2 b off m cap : Nat) (w : World) (hm : m ≤ 100000) (hcap : m ≤ cap) (hg1 : g1 < w.heap.size) (hg2 : g2 < w.heap.size)
    (hc1 : w.cell? ⟨g1, 0, none⟩ = some (.slice (some ⟨b, off, none⟩) m cap)) (hc2 : w.cell? ⟨g2, 0, none⟩ = some (.int .i64 28)) :
    SeqStopsK Fence.wide n Tryz.prog 72 #[.pointer (some ⟨g1, 0, none⟩), .pointer (some ⟨g2, 0, none⟩)] (fun x : Nat => #[partV b off m x]) (Below w.heap.size) (fun ys => ys = List.range ((m + 27) / 28)) (fun _ => True) ((m + 27) / 28) w := fun l J Jx W hW hJ _ hY h0 =>
  chunk1_in n hn l g1 g2 w.heap.size b off m cap hm hcap hg1 hg2 J Jx hY (fun s A B row hs hg hr => hJ s A B row hs hg (fun r e => (hr r e).elim)) W hW.size ((hW.cell (p := ⟨g1, 0, none⟩) hg1).trans hc1) ((hW.cell (p := ⟨g2, 0, none⟩) hg2).trans hc2) h0
theorem infoV : (Tryz.prog.info? 47).map (fun i => (i.zero, i.size, i.bytes)) = some (some (.slice none 0 0), 1, 24) := by kernel_rfl
set_option maxRecDepth 100000 in
set_option maxHeartbeats 2000000 in
theorem appendSeq_in (g1 g2 b off m cap : Nat) (w : World) (hm : m ≤ 20000) (hcap : m ≤ cap) (hg1 : g1 < w.heap.size) (hg2 : g2 < w.heap.size)
    (hc1 : w.cell? ⟨g1, 0, none⟩ = some (.slice (some ⟨b, off, none⟩) m cap)) (hc2 : w.cell? ⟨g2, 0, none⟩ = some (.int .i64 28)) :
    CallsIn Fence.wide 5 Tryz.prog 71 #[.slice none 0 0, .func (.func 72) #[] #[.pointer (some ⟨g1, 0, none⟩), .pointer (some ⟨g2, 0, none⟩)]] w fun e W' => ∃ v, e = .returned v ∧ OwnG (partV b off m) 47 W' w.heap.size v (List.range ((m + 27) / 28)) ∧ Ext w W' := by
  obtain ⟨i0, hi, hz0, hz1, hz2⟩ := info_parts infoV
  refine callsIn_of_wp_marks Tryz.func71 rfl trivial ?_ rfl
  simp only [Tryz.ntmps71, List.size_toArray, List.length_cons, List.length_nil, Nat.reduceAdd, Nat.reduceSub, Array.replicate_succ, Array.replicate_zero, List.push_toArray, List.append_toArray, List.nil_append, List.cons_append]
  gi_wp2
  have bO := Boxed.new w 33 (.slice none 0 0)
  have hB0 : Below w.heap.size w (w.alloc (.cells #[.slice none 0 0] 33)) := (Below.refl _ w).alloc (Nat.le_refl _) _
  refine wpIn_rangeFunc_ownG rfl (by decide) (gf := 72) (lb := #[.pointer (some ⟨g1, 0, none⟩), .pointer (some ⟨g2, 0, none⟩)]) rfl trivial (enters_of Tryz.func72 (by kernel_rfl) rfl)
    (chunk_stops (5 - 1) (by decide) g1 g2 b off m cap w (by omega) hcap hg1 hg2 hc1 hc2) belowK_t (belowK_b (by simp)) hB0 (fun _ => rfl)
    (fun pre W => (∃ v, Boxed W w.heap.size 33 v ∧ W.ownsRow w.heap.size 47 1 v pre.length (pre.map (partV b off m)) ∧ True) ∧ Below w.heap.size w W)
    (fun _ _ _ => False)
    (OwnFrom.and (Own.from (holdsRow_own w.heap.size w.heap.size 33 47 1 (fun pre : List Nat => pre.length) (fun pre => pre.map (partV b off m)) (fun _ _ => True)) _) (ownFrom_below (Nat.le_refl _) (by simp)))
    (fun _ _ _ _ _ hs _ _ => hs)
    ⟨⟨_, bO, World.ownsRow_nil _ _ _ _, trivial⟩, hB0⟩
    (fun x => { tmps := #[.slice none 0 0, .func (.func 72) #[] #[.pointer (some ⟨g1, 0, none⟩), .pointer (some ⟨g2, 0, none⟩)], .pointer (some ⟨w.heap.size, 0, none⟩), undef, .slice none 0 0, partV b off m x, .func (.func 72) #[] #[.pointer (some ⟨g1, 0, none⟩), .pointer (some ⟨g2, 0, none⟩)], partV b off m x, undef, undef, undef, undef, undef], defers := [] }) ?assign ?body ?done ?stop
  case assign =>
    intro l x W K hK
    gi_wp2
    exact hK
  case body =>
    rintro l pre x W ⟨⟨v, hv, hrow, _⟩, hB⟩ hlt
    have hc := hv.cell
    have hpl : pre.length ≤ 715 := by omega
    obtain ⟨o', ho'⟩ : ∃ o', off + 28 * x = o' := ⟨_, rfl⟩
    obtain ⟨c', hc'⟩ : ∃ c', min 28 (m - 28 * x) = c' := ⟨_, rfl⟩
    have HPV : Hid (partV b off m x = .slice (some ⟨b, o', none⟩) c' c') := by show _ = _; unfold partV; rw [ho', hc']
    rw [HPV.out]
    clear ho' hc'
    gi_wp2_with (gi_at_builtin; refine wpListIn_append_own _ rfl _ _ 33 rfl w.heap.size 47 i0 (.slice none 0 0) 1 24 Tryz.underlying33 hi hz0 hz1 hz2 rfl (by decide) _ _ _ rfl (hrow.alloc _) ⟨W.heap.size, 0, none⟩ 1 1 [.slice (some ⟨b, o', none⟩) c' c'] rfl rfl (cell_one_new _ _ _) (by simp [Value.oneCell']) (by unfold maxLen; omega) (by omega) (by have := hB.size; simp; omega) ?_; intro v' w1 hown' hgrow _; obtain ⟨g', cap', rfl⟩ := ownsRow_succ hown'; obtain ⟨hv1, hv2, hr2, hk2, hb2⟩ := hv.appended (by decide) hrow hB.size (Nat.le_refl _) hown' hgrow; have hc1 := hv1.cell; have hf1 := hv1.frozen)
    exact ⟨hk2.from _, hb2, ⟨_, hv2, by rw [List.length_append, List.map_append, show [x].map (partV b off m) = [Value.slice (some ⟨b, o', none⟩) c' c'] by rw [List.map_singleton, HPV.out]]; exact hr2, trivial⟩, hB.trans hb2⟩
  case done =>
    rintro D ys W hD rfl ⟨⟨v, hv, hrow, _⟩, hB⟩ hK
    have hc := hv.cell
    gi_wp2
    refine ⟨by simp, .inl ⟨_, _, rfl, run_takeDeferred hK, ?_⟩⟩
    exact ⟨_, results_tmp rfl _ _ _, v, rfl, ownsRow_putObj hrow _ hK rfl, hB.trans (belowK_b (w := w) (Nat.le_refl _) W D _ _ (by simp at hD; omega) hK rfl rfl)⟩
  case stop =>
    rintro D c pre W _ _ h _
    exact h.elim
end Go.Proofs.YtjabgpejmnpamaaGreatDoor

namespace Go.Proofs.YtjabgpejmnpamaaGreatDoor
open Go.RowKit
theorem box_type {w : World} {g : Nat} {cs cs' : Array Value} {t t' : TypeId} (h : BoxAt w g cs t) (h' : BoxAt w g cs' t') : t = t' := by
  have e1 : w.heap[g]? = some (.cells cs t) := h
  have e2 : w.heap[g]? = some (.cells cs' t') := h'
  rw [e1] at e2
  injection e2 with e2
  injection e2
structure Chg (B : Nat) (T : List TypeId) (w w' : World) : Prop where
  bel : Below B w w'
  box : ∀ k cs t, BoxAt w k cs t → t ∉ T → BoxAt w' k cs t
section
variable {B : Nat} {T : List TypeId} {a b c : World}
theorem Chg.refl (B : Nat) (T : List TypeId) (w : World) : Chg B T w w := ⟨Below.refl _ _, fun _ _ _ h _ => h⟩
theorem Chg.trans (h : Chg B T a b) (k : Chg B T b c) : Chg B T a c := ⟨h.bel.trans k.bel, fun g cs t hb ht => k.box g cs t (h.box g cs t hb ht) ht⟩
theorem Chg.size (h : Chg B T a b) : a.heap.size ≤ b.heap.size := h.bel.size
theorem Chg.ext (e : Ext a b) (hB : B ≤ a.heap.size) : Chg B T a b := ⟨Below.mono e hB, fun _ _ _ h _ => h.ext e⟩
theorem Chg.more (h : Chg B T a b) (e : Ext b c) (hB : B ≤ a.heap.size) : Chg B T a c := h.trans (Chg.ext e (Nat.le_trans hB h.size))
theorem Chg.wide {T' : List TypeId} (h : Chg B T a b) (hT : ∀ t, t ∈ T → t ∈ T') : Chg B T' a b := ⟨h.bel, fun k cs t hb ht => h.box k cs t hb (fun hm => ht (hT t hm))⟩
theorem Chg.stored {g : Nat} {cs cells : Array Value} {t : TypeId} (h : Chg B T a b) (hx : BoxAt b g cs t) (hs : Stored b c g cells t) (ht : t ∈ T) (hg : B ≤ g) : Chg B T a c := by
  refine ⟨hs.bel h.bel hg, fun k cs' t' hb ht' => ?_⟩
  have hk := h.box k cs' t' hb ht'
  refine (hs.other k (fun e => ?_)).trans hk
  subst e
  exact ht' (box_type hx hk ▸ ht)
theorem Chg.grown {e : TypeId} {s n b0 : Nat} {v : Value} {xs : List Value} (h : Chg B T a b) (ho : b.ownsRow b0 e s v n xs) (he : e ∈ T) (hb : B ≤ b0) (hB : B ≤ a.heap.size) (hg : b.grownBy c v.ownBlock) : Chg B T a c := by
  refine ⟨Below.grown h.bel hg (Nat.le_trans hB h.size) (fun k hk => ?_), fun k cs t hx ht => ?_⟩
  · rcases ho.2 with ⟨h1, _⟩ | ⟨q, cap, cur, h1, h2, _⟩
    · rw [h1] at hk; simp [Value.ownBlock] at hk
    · rw [h1] at hk; simp [Value.ownBlock] at hk; omega
  · have hk := h.box k cs t hx ht
    refine hk.grown hg (fun hkv => ?_)
    rcases ho.2 with ⟨h1, _⟩ | ⟨q, cap, cur, h1, h2, h3, _⟩
    · rw [h1] at hkv; simp [Value.ownBlock] at hkv
    · rw [h1] at hkv
      simp [Value.ownBlock] at hkv
      subst hkv
      exact ht (box_type (show BoxAt b k cur e from h3) hk ▸ he)
theorem ownsRow_chg {e : TypeId} {s n b0 : Nat} {v : Value} {xs : List Value} (h : Chg B T a b) (ho : a.ownsRow b0 e s v n xs) (he : e ∉ T) : b.ownsRow b0 e s v n xs := by
  refine ⟨ho.1, ho.2.imp id ?_⟩
  rintro ⟨g, cap, cur, hv, hg, hh, r⟩
  exact ⟨g, cap, cur, hv, hg, h.box g cur e hh he, r⟩
theorem BoxAt.chg {g : Nat} {cs : Array Value} {t : TypeId} (hb : BoxAt a g cs t) (h : Chg B T a b) (ht : t ∉ T) : BoxAt b g cs t := h.box g cs t hb ht
theorem box_ne {w : World} {g g' : Nat} {cs cs' : Array Value} {t t' : TypeId} (h : BoxAt w g cs t) (h' : BoxAt w g' cs' t') (ht : t ≠ t') : g ≠ g' := by
  intro e
  subst e
  exact ht (box_type h h')
end
end Go.Proofs.YtjabgpejmnpamaaGreatDoor

namespace Go.Proofs.YtjabgpejmnpamaaGreatDoor
open Go.RowKit
set_option maxRecDepth 100000
abbrev OwnI (w : World) (B : Nat) (v : Value) (l : List Int) : Prop := OwnG encI 3 w B v l
set_option maxHeartbeats 1000000 in
theorem cloneI_any (v : Value) (l : List Int) (w : World) (hl : l.length ≤ 100000) (h : SliceAt encI w v l) :
    Calls Tryz.prog 207 #[v] w fun e w' => ∃ v', e = .returned v' ∧ OwnI w' w.heap.size v' l ∧ Below w.heap.size w w' := by
  obtain ⟨i0, hi, hz0, hz1, hz2⟩ := info_parts infoN
  have HA := Lib.hid h
  obtain ⟨ad, cap, rfl, hca, h⟩ := h
  cases ad with
  | none =>
    have hl0 : l = [] ∧ cap = 0 := by
      rcases h with ⟨h1, h2⟩ | ⟨_, _, h1, _⟩
      · exact ⟨h1, h2 rfl⟩
      · cases h1
    obtain ⟨rfl, rfl⟩ := hl0
    clear h
    go_enter Tryz.func207, Tryz.ntmps207
    have hq := fun (w : World) => Lib.run_eql_slice_nil (P := Tryz.prog) w 40 3 none 0 0 0 0 Tryz.underlying40
    go_wp2
    go_ret
    exact ⟨_, rfl, OwnG.nil, Below.refl _ _⟩
  | some ad =>
    clear h
    have hq := fun (w : World) => Lib.run_eql_slice_nil (P := Tryz.prog) w 40 3 (some ad) l.length cap 0 0 Tryz.underlying40
    go_enter Tryz.func207, Tryz.ntmps207
    go_wp2_with (at_builtin; refine wpList_append_slice (enc := encI) (fun _ => rfl) rfl (.tmp 5) (.tmp 6) 40 rfl w.heap.size 3 i0 (.int .i64 0) 8 Tryz.underlying40 hi hz0 hz1 hz2 rfl _ 0 [] rfl (World.ownsRow_lit w #[] 0 (Nat.le_refl _) (by decide) rfl) _ l rfl (HA.out.ext (Ext.alloc _ _)) (by unfold maxLen; omega) (by omega) (by simp) ?_; intro v1 w1 hown1 hgrow1; simp only [Nat.zero_add, List.nil_append] at hown1; have hx1 : Below w.heap.size w w1 := Below.grown ((Below.refl _ w).alloc (Nat.le_refl _) _) hgrow1 (by simp) (fun k hk => by cases hk; exact Nat.le_refl _))
    go_ret
    exact ⟨_, rfl, hown1, hx1⟩
theorem dcount_any (w : World) : Calls Tryz.prog 153 #[.int .i64 5, .int .i64 1] w fun e w' => e = .returned (.int .i64 5) ∧ w = w' := by
  go_enter Tryz.func153, Tryz.ntmps153
  go_wp2
  refine wp_loop_rounds 2 ?_
  rw [rounds_succ]
  go_wp2
  rw [rounds_succ]
  go_wp2
  go_ret
  exact ⟨rfl, rfl⟩
abbrev setsW (w : World) (v : Value) : World := ((w.alloc (.cells #[v] 40)).alloc (.cells #[.int .i64 5] 3)).alloc (.cells #[.int .i64 4] 3)
abbrev setsV (w : World) : Array Value := #[.pointer (some ⟨w.heap.size, 0, none⟩), .pointer (some ⟨w.heap.size + 1 + 1, 0, none⟩), .pointer (some ⟨w.heap.size + 1, 0, none⟩)]
theorem sets_any (a : Option Addr) (n c : Nat) (w : World) :
    Calls Tryz.prog 154 #[.slice a n c, .int .i64 5, .int .i64 4] w fun e w' => e = .returned (.func (.func 206) #[] (setsV w)) ∧ w' = setsW w (.slice a n c) := by
  go_enter Tryz.func154, Tryz.ntmps154
  go_wp2_with fail
  go_ret
  exact ⟨rfl, rfl⟩
end Go.Proofs.YtjabgpejmnpamaaGreatDoor
