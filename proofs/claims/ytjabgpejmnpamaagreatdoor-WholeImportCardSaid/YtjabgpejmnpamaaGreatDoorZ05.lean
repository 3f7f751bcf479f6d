/-
  Part 5 of the proof: Package design: the closure of sets, within the loop of Complete: what Package design: the closure of sets: a list that is not whole. Package design: the closure of sets: one round: the child's list and i Package design: the closure of sets: lists that are not whole. Printed Structs loaded from and stored into boxes. Package design: all sets of four of five disks; Complete(5, 4). Package design: Choose(5, 4). Package design: formed, at the five sets of four disks.
-/
import Derived.Test.YtjabgpejmnpamaaGreatDoorZ04
import Derived.Shelf.RegionOpen
import Derived.Test.YtjabgpejmnpamaaGreatDoorZ03
import Derived.Deep.DeepCutAuto
import Derived.Maps.OwnIn
import Derived.OwnWalkIn
set_option linter.unusedVariables false
namespace Go.Proofs.YtjabgpejmnpamaaGreatDoor
open Go.RowKit Go.Shelf
set_option maxRecDepth 100000
attribute [local go_sem] Oper.semAt_some
def own6 (g6 : Nat) (W : World) : Option Nat := match W.cell? ⟨g6, 1, none⟩ with | some v => v.ownBlock | none => none
def Bad (g6 : Nat) (W : World) (k : Nat) : Prop := k = g6 ∨ own6 g6 W = some k
def Fin6 (g6 : Nat) (W : World) : Prop := g6 < W.heap.size ∧ ∀ k, own6 g6 W = some k → k < W.heap.size
structure KP (g6 N : Nat) (W W' : World) : Prop where
  size : W.heap.size ≤ W'.heap.size
  same : ∀ k cs t fr, W.heap[k]? = some (.cells cs t fr) → ¬ Bad g6 W k → W'.heap[k]? = some (.cells cs t fr)
  bad : ∀ k, k < W.heap.size → Bad g6 W' k → Bad g6 W k
  fin : Fin6 g6 W → Fin6 g6 W'
  nonc : ∀ k o, N ≤ k → W.heap[k]? = some o → o.isCells = false → W'.heap[k]? = some o
theorem KP.trans {g6 N : Nat} {A B C : World} (h : KP g6 N A B) (k : KP g6 N B C) : KP g6 N A C :=
  ⟨Nat.le_trans h.size k.size, fun i cs t fr hi hb => k.same i cs t fr (h.same i cs t fr hi hb) (fun hB => hb (h.bad i (Array.getElem?_eq_some_iff.1 hi).1 hB)),
   fun i hi hC => h.bad i hi (k.bad i (Nat.lt_of_lt_of_le hi h.size) hC), fun f => k.fin (h.fin f), fun i o hi ho hc => k.nonc i o hi (h.nonc i o hi ho hc) hc⟩
theorem KP.more {g6 N M : Nat} {A B : World} (h : KP g6 N A B) (hm : N ≤ M) : KP g6 M A B := ⟨h.size, h.same, h.bad, h.fin, fun k o hk ho hc => h.nonc k o (Nat.le_trans hm hk) ho hc⟩
theorem own6_same {g6 : Nat} {W W' : World} (h : W'.heap[g6]? = W.heap[g6]?) : own6 g6 W' = own6 g6 W := by
  unfold own6
  rw [World.cell?_of_block (a := ⟨g6, 1, none⟩) h]
theorem KP.ext {g6 N : Nat} {W W' : World} (e : Ext W W') (hf : g6 < W.heap.size) : KP g6 N W W' := by
  have ho := own6_same (e.block g6 hf)
  refine ⟨e.size, fun k cs t fr hk _ => (e.block k (Array.getElem?_eq_some_iff.1 hk).1).trans hk, fun k _ hb => ?_, fun hF => ⟨Nat.lt_of_lt_of_le hF.1 e.size, fun k hk => ?_⟩, fun k o _ ho _ => (e.block k (Array.getElem?_eq_some_iff.1 ho).1).trans ho⟩
  · rcases hb with h | h
    · exact .inl h
    · exact .inr (by rw [← ho]; exact h)
  · rw [ho] at hk
    exact Nat.lt_of_lt_of_le (hF.2 k hk) e.size
theorem KP.put {g6 N : Nat} {W : World} {l : Nat} {o : Obj} (o' : Obj) (hl : g6 < l) (hlN : l < N) (hk : W.heap[l]? = some o) (hc : o.isCells = false) : KP g6 N W (W.putObj l o') := by
  have ho : own6 g6 (W.putObj l o') = own6 g6 W := own6_same (World.putObj_heap_other (by omega))
  refine ⟨by simp, fun k cs t fr hk2 _ => (World.putObj_heap_other (fun e => ?_)).trans hk2, fun k _ hb => ?_, fun hF => ⟨by simpa using hF.1, fun k hk => ?_⟩, fun k o hk ho _ => (World.putObj_heap_other (by omega)).trans ho⟩
  · rw [e] at hk2; rw [hk] at hk2; cases hk2; cases hc
  · rcases hb with h | h
    · exact .inl h
    · exact .inr (by rw [← ho]; exact h)
  · rw [ho] at hk; simpa using hF.2 k hk
theorem KP.box {g6 N g : Nat} {W W' : World} {cs : Array Value} {t : TypeId} (h : KP g6 N W W') (hb : BoxAt W g cs t) (hB : ¬ Bad g6 W g) : BoxAt W' g cs t ∧ ¬ Bad g6 W' g :=
  ⟨h.same g cs t _ hb hB, fun hB' => hB (h.bad g hb.lt hB')⟩
def Safe (g6 : Nat) (W : World) (v : Value) : Prop := ∀ g, v.ownBlock = some g → ¬ Bad g6 W g
theorem KP.own {g6 N : Nat} {W W' : World} {v : Value} {l : List Int} (h : KP g6 N W W') (hb : OwnI W 0 v l) (hS : Safe g6 W v) : OwnI W' 0 v l ∧ Safe g6 W' v := by
  refine ⟨?_, fun g hg hB => hS g hg (h.bad g (hb.lt g hg).2 hB)⟩
  refine ⟨hb.1, hb.2.imp id (fun ⟨q, cap, cur, hv, hq, hh, r⟩ => ⟨q, cap, cur, hv, hq, ?_, r⟩)⟩
  exact h.same q cur _ _ hh (hS q (by rw [hv]; rfl))
theorem own_ownFrom {β : Type} {B : Nat} {v : Value} {l : List Int} : OwnFrom B (fun (_ : β) W => OwnI W 0 v l) := fun s X Y row hs hg hr => by
  refine OwnG.kept hs hg ?_
  cases hv : v.ownBlock with
  | none => exact .inr rfl
  | some g =>
    refine .inl (fun e => ?_)
    obtain ⟨_, o, ho, hc⟩ := hr g e.symm
    rcases hs.2 with ⟨h1, _⟩ | ⟨q, cap, cur, h1, _, h3, _⟩
    · rw [h1] at hv; simp [Value.ownBlock] at hv
    · rw [h1] at hv
      simp [Value.ownBlock] at hv
      subst hv
      rw [h3] at ho
      cases ho
      cases hc
theorem round_any {P : Program} {l m n : Nat} {f : FuncId} {tmps : Array Value} {assign body : Code} {w : World} {R : Ending → World → Prop} (h : RoundIn Fence.wide m P l f tmps assign body w R) : RoundIn Fence.wide n P l f tmps assign body w R :=
  ⟨h.1, fun c cs _ => h.2 c cs (room_wide _)⟩
abbrev VL := Value × List Int
def ES (x : VL) (W : World) : Prop := OwnI W 0 x.1 x.2
def YOk (g6 N M : Nat) (l : Nat) (J : List VL → World → Prop) : Prop := ∀ pre x W1, pre.length < M → J pre W1 → ES x W1 → Fin6 g6 W1 → YieldAt Fence.wide 5 Tryz.prog l #[x.1] W1 fun e W' => e = .returned (.bool true) ∧ J (pre ++ [x]) W' ∧ KP g6 N W1 W'
structure NodeAt (g6 : Nat) (W : World) (b1 b2 b3 : Nat) (vp : Value) (p : List Int) : Prop where
  fin : Fin6 g6 W
  box1 : BoxAt W b1 #[vp] 40
  box2 : BoxAt W b2 #[.int .i64 4] 3
  box3 : BoxAt W b3 #[.int .i64 5] 3
  own : OwnI W 0 vp p
  bad1 : ¬ Bad g6 W b1
  bad2 : ¬ Bad g6 W b2
  bad3 : ¬ Bad g6 W b3
  safe : Safe g6 W vp
theorem NodeAt.keep {g6 N b1 b2 b3 : Nat} {W W' : World} {vp : Value} {p : List Int} (h : NodeAt g6 W b1 b2 b3 vp p) (k : KP g6 N W W') : NodeAt g6 W' b1 b2 b3 vp p :=
  ⟨k.fin h.fin, (k.box h.box1 h.bad1).1, (k.box h.box2 h.bad2).1, (k.box h.box3 h.bad3).1, (k.own h.own h.safe).1, (k.box h.box1 h.bad1).2, (k.box h.box2 h.bad2).2, (k.box h.box3 h.bad3).2, (k.own h.own h.safe).2⟩
abbrev setsArgs (l b1 b2 b3 : Nat) : Array Value := #[.func (.yield l) #[] #[], .pointer (some ⟨b1, 0, none⟩), .pointer (some ⟨b2, 0, none⟩), .pointer (some ⟨b3, 0, none⟩)]
def NodeEnd (J : List VL → World → Prop) (pre0 : List VL) (ls : List (List Int)) (e : Ending) (W' : World) : Prop := (∃ v, e = .returned v) ∧ ∃ xs, xs.map (·.2) = ls ∧ J (pre0 ++ xs) W'
set_option maxHeartbeats 2000000 in
theorem leaf_in (g6 N M l b1 b2 b3 : Nat) (vp : Value) (p : List Int) (pre0 : List VL) (J : List VL → World → Prop) (W : World) (hp : p.length = 4) (hN : NodeAt g6 W b1 b2 b3 vp p) (hJ : OwnFrom W.heap.size J) (hM : pre0.length < M) (hY : YOk g6 N M l J) (h0 : J pre0 W) :
    CallsIn Fence.wide 5 Tryz.prog 206 (setsArgs l b1 b2 b3) W (NodeEnd J pre0 [p]) := by
  obtain ⟨pa, pc, hvp⟩ := hN.own.shape
  rw [hp] at hvp
  subst hvp
  have HN := Lib.hid hN
  clear hN
  refine callsIn_of_wp Tryz.func206 rfl trivial ?_ rfl
  simp only [Tryz.ntmps206, setsArgs, List.size_toArray, List.length_cons, List.length_nil, Nat.reduceAdd, Nat.reduceSub, Array.replicate_succ, Array.replicate_zero, List.push_toArray, List.append_toArray, List.nil_append, List.cons_append]
  have c1 : W.cell? ⟨b1, 0, none⟩ = some (.slice pa 4 pc) := HN.out.box1.cell 0 rfl
  have c2 : W.cell? ⟨b2, 0, none⟩ = some (.int .i64 4) := HN.out.box2.cell 0 rfl
  have l1 := HN.out.box1.lt
  have l2 := HN.out.box2.lt
  gi_wp2
  have c4 := cell_new1 W (.func (.yield l) #[] #[]) 306
  have e1 : Ext W (W.alloc (.cells #[.func (.yield l) #[] #[]] 306)) := Ext.alloc _ _
  have c1a : (W.alloc (.cells #[.func (.yield l) #[] #[]] 306)).cell? ⟨b1, 0, none⟩ = some (.slice pa 4 pc) := (Below.cell e1 (p := ⟨b1, 0, none⟩) l1).trans c1
  have l4 : W.heap.size < (W.alloc (.cells #[.func (.yield l) #[] #[]] 306)).heap.size := by simp
  have l1a : b1 < (W.alloc (.cells #[.func (.yield l) #[] #[]] 306)).heap.size := by omega
  have E1 := Lib.hid e1
  generalize (W.alloc (.cells #[.func (.yield l) #[] #[]] 306)) = W1 at *
  obtain ⟨b4, hb4⟩ : ∃ b, W.heap.size = b := ⟨_, rfl⟩
  rw [hb4] at c4 l4 ⊢
  clear hb4 c1 c2 e1
  have hm : Tryz.prog.follows .mixedOrders = true := by kernel_rfl
  have hfin := HN.out.fin
  gi_region_with_o (first | (refine ⟨trivial, ?_⟩; gi_at_call 207; refine (callsIn_wide.2 (cloneI_any _ p _ (by omega) ((HN.out.own.slice.ext E1.out).ext (Ext.drew _)))).mono ?_; rintro e w5 ⟨vc, rfl, hc5, hb5⟩; have E15 : Ext W1 w5 := (Ext.drew _).trans hb5; have E5 := E1.out.trans E15; have c5 := (Below.cell E15 (p := ⟨b4, 0, none⟩) l4).trans c4; obtain ⟨fn, tmps, assign, body, hy, hR⟩ := hY pre0 (vc, p) w5 hM (hJ _ _ _ none h0 (grown_ext E5 none) (fun r e => by cases e)) (hc5.lower (Nat.zero_le _)) ((KP.ext (N := N) E5 hfin.1).fin hfin)) | (refine (round_any hR).mono ?_; rintro e w6 ⟨rfl, hJ6, hk6⟩))
  all_goals
    clear hy hR c5
    gi_wp2
    refine bodyPost_ret (results_none rfl _ _ _) rfl ?_
    exact ⟨⟨_, rfl⟩, [(vc, p)], rfl, hJ6⟩
end Go.Proofs.YtjabgpejmnpamaaGreatDoor

namespace Go.Proofs.YtjabgpejmnpamaaGreatDoor
open Go.RowKit Go.Shelf
set_option maxRecDepth 100000
attribute [local go_sem] Oper.semAt_some
def Node (g6 : Nat) (p : List Int) (ls : List (List Int)) : Prop := ∀ (N M l b1 b2 b3 : Nat) (vp : Value) (pre0 : List VL) (J : List VL → World → Prop) (W : World), NodeAt g6 W b1 b2 b3 vp p → OwnFrom W.heap.size J → N ≤ W.heap.size → pre0.length + ls.length ≤ M → YOk g6 N M l J → J pre0 W →
  CallsIn Fence.wide 5 Tryz.prog 206 (setsArgs l b1 b2 b3) W (NodeEnd J pre0 ls)
theorem node_leaf {g6 : Nat} {p : List Int} (hp : p.length = 4) : Node g6 p [p] := fun N M l b1 b2 b3 vp pre0 J W hN hJ _ hM hY h0 => leaf_in g6 N M l b1 b2 b3 vp p pre0 J W hp hN hJ (by simp at hM; omega) hY h0
theorem fin_own {β : Type} {B g6 : Nat} (hB : g6 < B) : OwnFrom B (fun (_ : β) W => Fin6 g6 W) := fun s X Y row hs hg hr => by
  have ho : own6 g6 Y = own6 g6 X := own6_same (hg.block g6 hs.1 (fun e => by have := (hr _ e.symm).1; omega))
  exact ⟨Nat.lt_of_lt_of_le hs.1 hg.size, fun k hk => Nat.lt_of_lt_of_le (hs.2 k (by rw [← ho]; exact hk)) hg.size⟩
theorem bad_own {β : Type} {B g6 k : Nat} (hB : g6 < B) : OwnFrom B (fun (_ : β) W => g6 < W.heap.size ∧ ¬ Bad g6 W k) := fun s X Y row hs hg hr => by
  have ho : own6 g6 Y = own6 g6 X := own6_same (hg.block g6 hs.1 (fun e => by have := (hr _ e.symm).1; omega))
  refine ⟨Nat.lt_of_lt_of_le hs.1 hg.size, fun hb => hs.2 ?_⟩
  rcases hb with h | h
  · exact .inl h
  · exact .inr (by rw [← ho]; exact h)
theorem node_own {β : Type} {B g6 b1 b2 b3 : Nat} {vp : Value} {p : List Int} (hB : g6 < B) : OwnFrom B (fun (_ : β) W => NodeAt g6 W b1 b2 b3 vp p) := fun s X Y row hs hg hr =>
  ⟨fin_own (β := Unit) hB () X Y row hs.fin hg hr, box_own (β := Unit) B () X Y row hs.box1 hg hr, box_own (β := Unit) B () X Y row hs.box2 hg hr, box_own (β := Unit) B () X Y row hs.box3 hg hr, own_ownFrom (β := Unit) (B := B) () X Y row hs.own hg hr,
   (bad_own (β := Unit) hB () X Y row ⟨hs.fin.1, hs.bad1⟩ hg hr).2, (bad_own (β := Unit) hB () X Y row ⟨hs.fin.1, hs.bad2⟩ hg hr).2, (bad_own (β := Unit) hB () X Y row ⟨hs.fin.1, hs.bad3⟩ hg hr).2, fun g h => (bad_own (β := Unit) hB () X Y row ⟨hs.fin.1, hs.safe g h⟩ hg hr).2⟩
theorem new_safe {g6 : Nat} {W W' : World} {k : Nat} (hF : Fin6 g6 W) (e : Ext W W') (hk : W.heap.size ≤ k) : ¬ Bad g6 W' k := by
  intro hb
  rcases hb with h | h
  · have := hF.1; omega
  · rw [own6_same (e.block g6 hF.1)] at h
    have := hF.2 k h
    omega
theorem child_seq {g6 : Nat} {p : List Int} {ls : List (List Int)} (h : Node g6 p ls) {w : World} {b1 b2 b3 : Nat} {vp : Value} (hN : NodeAt g6 w b1 b2 b3 vp p) (n : Nat) :
    SeqE Fence.wide n Tryz.prog 206 #[.pointer (some ⟨b1, 0, none⟩), .pointer (some ⟨b2, 0, none⟩), .pointer (some ⟨b3, 0, none⟩)] (fun x : VL => #[x.1]) (KP g6 (w.heap.size + 2)) (fun x W => ES x W ∧ Fin6 g6 W) (fun xs => xs.map (·.2) = ls) ls.length w := by
  intro l J W hW hW2 hJ hY h0
  refine (callsIn_wide.2 (callsIn_wide.1 (h (w.heap.size + 2) ls.length l b1 b2 b3 vp [] J W (hN.keep (KP.ext (N := 0) hW hN.fin.1)) hJ hW2 (by simp) ?_ h0))).mono ?_
  · intro pre x W1 hlen hj he hf
    obtain ⟨fn, tmps, assign, body, hy, hR⟩ := hY pre x W1 hlen hj ⟨he, hf⟩
    exact ⟨fn, tmps, assign, body, hy, round_any hR⟩
  · rintro e W' ⟨hv, xs, hx, hJx⟩
    exact ⟨hv, xs, hx, hJx⟩
end Go.Proofs.YtjabgpejmnpamaaGreatDoor

namespace Go.Proofs.YtjabgpejmnpamaaGreatDoor
open Go.RowKit Go.Shelf
set_option maxRecDepth 100000
attribute [local go_sem] Oper.semAt_some
def findR (id : Nat) : Code → Option Code
  | .region k ops d => if k = id then some (.region k ops d) else none
  | .seq a b => (match findR id a with | some x => some x | none => findR id b)
  | .cond _ a b => (match findR id a with | some x => some x | none => findR id b)
  | .block _ b => findR id b
  | .loop b => findR id b
  | .rangeFunc _ _ a b => (match findR id a with | some x => some x | none => findR id b)
  | .scope b => findR id b
  | _ => none
def findF : Code → Option Code
  | .seq a b => (match findF a with | some x => some x | none => findF b)
  | .cond _ a b => (match findF a with | some x => some x | none => findF b)
  | .block _ b => findF b
  | .loop b => findF b
  | .rangeFunc f p a b => some (.rangeFunc f p a b)
  | .scope b => findF b
  | _ => none
theorem new_keep {g6 : Nat} {W W' : World} {k : Nat} (hF : Fin6 g6 W) (e : Ext W W') (hk : ¬ Bad g6 W k) (_ : k < W.heap.size) : ¬ Bad g6 W' k := by
  rintro (h | h)
  · exact hk (.inl h)
  · rw [own6_same (e.block g6 hF.1)] at h
    exact hk (.inr h)
set_option maxHeartbeats 4000000 in
theorem reg9_any {b1 b2 b3 j pc : Nat} {pa : Option Addr} {d : Int} {p : List Int} {x0 x4 x5 x7 x8 x9 x10 x11 x12 x13 x14 x15 x16 x17 x18 x19 x20 x21 x22 x23 x24 x25 x26 x27 x28 x29 x30 x31 x32 x33 x34 x35 x36 x37 x38 x39 x40 x41 x42 x43 x44 x45 x46 x47 x48 x49 : Value} {df : List Deferred} {V : World} {Q : Exit → Act → World → Prop} (hj : p.length = j) (hj4 : j ≤ 4)
    (c1 : V.cell? ⟨b1, 0, none⟩ = some (.slice pa j pc)) (c2 : V.cell? ⟨b2, 0, none⟩ = some (.int .i64 4)) (c3 : V.cell? ⟨b3, 0, none⟩ = some (.int .i64 5)) (l1 : b1 < V.heap.size) (l2 : b2 < V.heap.size) (l3 : b3 < V.heap.size)
    (hp : OwnI V 0 (.slice pa j pc) p)
    (h : ∀ (v5 v4 : Value) (a6 : Option Addr) (c6 : Nat) (wo : World), Ext V wo → OwnI wo V.heap.size (.slice a6 (j + 1) c6) (p ++ [d]) →
      Q .normal { tmps := (x0 :: .pointer (some ⟨b1, 0, none⟩) :: .pointer (some ⟨b2, 0, none⟩) :: .pointer (some ⟨b3, 0, none⟩) :: x4 :: x5 :: .int .i64 d :: x7 :: x8 :: x9 :: x10 :: x11 :: x12 :: x13 :: x14 :: x15 :: x16 :: x17 :: x18 :: x19 :: x20 :: x21 :: x22 :: x23 :: x24 :: x25 :: x26 :: x27 :: x28 :: x29 :: x30 :: x31 :: x32 :: x33 :: x34 :: x35 :: x36 :: .slice pa j pc :: v5 :: .int .i64 d :: v4 :: .slice a6 (j + 1) c6 :: .int .i64 5 :: .int .i64 4 :: .func (.func 206) #[] (setsV wo) :: x45 :: x46 :: x47 :: x48 :: x49 :: []).toArray, defers := df } (setsW wo (.slice a6 (j + 1) c6))) :
    ∀ c, Tryz.f206.body.bind (findR 9) = some c → c.wpIn Fence.wide 5 Tryz.prog Q { tmps := (x0 :: .pointer (some ⟨b1, 0, none⟩) :: .pointer (some ⟨b2, 0, none⟩) :: .pointer (some ⟨b3, 0, none⟩) :: x4 :: x5 :: .int .i64 d :: x7 :: x8 :: x9 :: x10 :: x11 :: x12 :: x13 :: x14 :: x15 :: x16 :: x17 :: x18 :: x19 :: x20 :: x21 :: x22 :: x23 :: x24 :: x25 :: x26 :: x27 :: x28 :: x29 :: x30 :: x31 :: x32 :: x33 :: x34 :: x35 :: x36 :: x37 :: x38 :: x39 :: x40 :: x41 :: x42 :: x43 :: x44 :: x45 :: x46 :: x47 :: x48 :: x49 :: []).toArray, defers := df } V := by
  intro c hc
  obtain ⟨i0, hi, hi0, hi1, hi2⟩ := info_parts infoN
  simp (config := { decide := true }) only [Tryz.f206, Option.bind_some, findR, if_false, if_true] at hc
  cases hc
  refine wpIn_wide.2 ?_
  have HP := Lib.hid hp
  have HJ := Lib.hid hj
  clear hp hj
  refine wp_region_extTB (.take 0 (.take 2 (.take 5 (.take 6 (.two 1 3 (.one 3 (.one 4 (.one 7 .done))) (.one 1 (.one 4 (.one 7 .done)))))))) (by kernel_rfl) (by kernel_rfl) (fun wc hxc => ?_)
  iterate 4 ((first
   | refine extT_move rfl rfl (by rfl) (by rfl) ?_
   | refine extT_assign rfl rfl (by rfl) (by rfl) ?_
   | refine extT_pick_t rfl rfl (by rfl) (by rfl) (by rfl) ?_
   | refine extT_pick_f rfl rfl (by rfl) (by rfl) (by rfl) ?_
   | (apply extT_take rfl (by rfl)
      · intro w' hS
        have hSc := hS.cells
        (try simp only [World.size_drew, World.cell?_drew] at hSc)
        go_simp
        (try simp (disch := omega) only [i64_id, u64_id, ↓IntWalk.iteOmega, Int.tdiv_eq_ediv_of_nonneg, Int.tmod_eq_emod_of_nonneg])
        try rfl)
   | refine extT_pass rfl (by rfl) ?_); simp only [Act.put, setZa, setZ0, setZ1])
  refine extT_twoB rfl rfl (by rfl) (by rfl) (fun K hK => ?_) (fun K hK => ?_)
  go_simp
  go_at_call 207
  refine (cloneI_any _ p _ (by have := HJ.out; omega) (HP.out.slice.ext hxc)).mono ?_
  rintro e wn ⟨v5, rfl, ho5, hst⟩
  have ho5 : OwnI wn V.heap.size v5 p := ho5.lower hxc.size
  skip
  replace hst : Ext wc wn := hst
  refine hK _ _ (hxc.trans hst) ?_
  clear hK K
  replace hxc := hxc.trans hst
  clear hst
  generalize wn = wc at *
  (try simp only [Act.put, setZa, setZ0, setZ1])
  refine extT_doB rfl (by rfl) (fun K hK => ?_)
  go_simp
  have hst : Ext wc (wc.alloc (.cells #[.int .i64 d] 3)) := Ext.alloc _ _
  have hb6 : BoxAt (wc.alloc (.cells #[.int .i64 d] 3)) wc.heap.size #[.int .i64 d] 3 := BoxAt.new _ _ _
  replace ho5 := ho5.ext hst
  refine hK _ _ (hxc.trans hst) ?_
  clear hK K
  replace hxc := hxc.trans hst
  clear hst
  generalize wc.alloc (.cells #[.int .i64 d] 3) = wn at *
  generalize wc.heap.size = q6 at *
  generalize wn = wc at *
  (try simp only [Act.put, setZa, setZ0, setZ1])
  refine extT_doB rfl (by rfl) (fun K hK => ?_)
  refine wp_of_list rfl ?_
  refine wpList_append_one rfl _ _ _ rfl V.heap.size 3 i0 (.int .i64 0) 8 Tryz.underlying40 hi hi0 hi1 hi2 rfl _ _ _ rfl ho5 _ (.int .i64 d) rfl rfl (hb6.cell 0 rfl) (by have := HJ.out; unfold maxLen; omega) (by have := HJ.out; omega) hxc.size ?_
  intro v6 wn ho6 hg6 _
  have hst : Ext V wn := Below.grown hxc hg6 hxc.size (fun k hk => (ho5.lt k hk).1)
  have ho6 : OwnI wn V.heap.size v6 (p ++ [d]) := OwnG.snoc ho6
  obtain ⟨a6, c6, rfl⟩ := ho6.shape
  rw [show (p ++ [d]).length = j + 1 from by rw [List.length_append, HJ.out]; rfl] at ho6 ⊢
  refine hK _ _ hst ?_
  clear hK K hxc hg6
  (try simp only [Act.put, setZa, setZ0, setZ1])
  refine extT_doB rfl (by rfl) (fun K hK => ?_)
  go_simp
  go_at_call 154
  refine (sets_any _ _ _ _).mono ?_
  rintro e w8 ⟨rfl, rfl⟩
  refine hK _ _ (hst.trans ((Ext.alloc _ _).trans ((Ext.alloc _ _).trans (Ext.alloc _ _)))) ?_
  clear hK K
  (try simp only [Act.put, setZa, setZ0, setZ1])
  refine extT_nil ?_
  exact h _ _ _ _ _ hst ho6
  skip
  go_simp
  have hst : Ext wc (wc.alloc (.cells #[.int .i64 d] 3)) := Ext.alloc _ _
  have hb6 : BoxAt (wc.alloc (.cells #[.int .i64 d] 3)) wc.heap.size #[.int .i64 d] 3 := BoxAt.new _ _ _
  skip
  refine hK _ _ (hxc.trans hst) ?_
  clear hK K
  replace hxc := hxc.trans hst
  clear hst
  generalize wc.alloc (.cells #[.int .i64 d] 3) = wn at *
  generalize wc.heap.size = q6 at *
  generalize wn = wc at *
  (try simp only [Act.put, setZa, setZ0, setZ1])
  refine extT_doB rfl (by rfl) (fun K hK => ?_)
  go_simp
  go_at_call 207
  refine (cloneI_any _ p _ (by have := HJ.out; omega) (HP.out.slice.ext hxc)).mono ?_
  rintro e wn ⟨v5, rfl, ho5, hst⟩
  have ho5 : OwnI wn V.heap.size v5 p := ho5.lower hxc.size
  replace hb6 := hb6.ext hst
  replace hst : Ext wc wn := hst
  refine hK _ _ (hxc.trans hst) ?_
  clear hK K
  replace hxc := hxc.trans hst
  clear hst
  generalize wn = wc at *
  (try simp only [Act.put, setZa, setZ0, setZ1])
  refine extT_doB rfl (by rfl) (fun K hK => ?_)
  refine wp_of_list rfl ?_
  refine wpList_append_one rfl _ _ _ rfl V.heap.size 3 i0 (.int .i64 0) 8 Tryz.underlying40 hi hi0 hi1 hi2 rfl _ _ _ rfl ho5 _ (.int .i64 d) rfl rfl (hb6.cell 0 rfl) (by have := HJ.out; unfold maxLen; omega) (by have := HJ.out; omega) hxc.size ?_
  intro v6 wn ho6 hg6 _
  have hst : Ext V wn := Below.grown hxc hg6 hxc.size (fun k hk => (ho5.lt k hk).1)
  have ho6 : OwnI wn V.heap.size v6 (p ++ [d]) := OwnG.snoc ho6
  obtain ⟨a6, c6, rfl⟩ := ho6.shape
  rw [show (p ++ [d]).length = j + 1 from by rw [List.length_append, HJ.out]; rfl] at ho6 ⊢
  refine hK _ _ hst ?_
  clear hK K hxc hg6
  (try simp only [Act.put, setZa, setZ0, setZ1])
  refine extT_doB rfl (by rfl) (fun K hK => ?_)
  go_simp
  go_at_call 154
  refine (sets_any _ _ _ _).mono ?_
  rintro e w8 ⟨rfl, rfl⟩
  refine hK _ _ (hst.trans ((Ext.alloc _ _).trans ((Ext.alloc _ _).trans (Ext.alloc _ _)))) ?_
  clear hK K
  (try simp only [Act.put, setZa, setZ0, setZ1])
  refine extT_nil ?_
  exact h _ _ _ _ _ hst ho6
  skip
theorem own_sub {β : Type} {B B' : Nat} {J : List β → World → Prop} (h : OwnFrom B J) (hb : B ≤ B') (pre : List β) : OwnFrom B' (fun (acc : List β) W => J (pre ++ acc) W) := fun s X Y row hs hg hr =>
  h (pre ++ s) X Y row hs hg (fun r e => ⟨Nat.le_trans hb (hr r e).1, (hr r e).2⟩)
theorem round_inner {P : Program} {l l' m n : Nat} {f : FuncId} {tmps : Array Value} {assign body : Code} {w : World} {R : Ending → World → Prop} (h : RoundIn Fence.wide m P l f tmps assign body w R) : RoundIn (Fence.wide.inRound l') n P l f tmps assign body w R := round_any (n := n) h
structure RI (g6 b1 b2 b3 b4 : Nat) (vp : Value) (p : List Int) (l : Nat) (J : List VL → World → Prop) (pre : List VL) (n : Nat) (Ds : List Nat) (acc : List VL) (W : World) : Prop where
  j : J (pre ++ acc) W
  node : NodeAt g6 W b1 b2 b3 vp p
  box4 : BoxAt W b4 #[.func (.yield l) #[] #[]] 306
  bad4 : ¬ Bad g6 W b4
  size : n ≤ W.heap.size
  defs : DefAt Ds W
theorem ri_own {g6 b1 b2 b3 b4 : Nat} {vp : Value} {p : List Int} {l : Nat} {J : List VL → World → Prop} {pre : List VL} {n B B' : Nat} {Ds : List Nat} (hJ : OwnFrom B J) (hb : B ≤ B') (hg : g6 < B') (hD : ∀ D, D ∈ Ds → D < B') : OwnFrom B' (RI g6 b1 b2 b3 b4 vp p l J pre n Ds) := fun s X Y row hs hgr hr =>
  ⟨own_sub hJ hb pre s X Y row hs.j hgr hr, node_own (β := Unit) hg () X Y row hs.node hgr hr, box_own (β := Unit) B' () X Y row hs.box4 hgr hr, (bad_own (β := Unit) hg () X Y row ⟨hs.node.fin.1, hs.bad4⟩ hgr hr).2, Nat.le_trans hs.size hgr.size, def_own (β := Unit) hD () X Y row hs.defs hgr hr⟩
set_option maxHeartbeats 4000000 in
theorem rng_any {g6 N M l b1 b2 b3 b4 n c B : Nat} {vp : Value} {p q : List Int} {ls : List (List Int)} {a6 : Option Addr} (hc : Node g6 q ls) {pre : List VL} {J : List VL → World → Prop} {V wo : World} {Ds : List Nat}
    (hN : NodeAt g6 V b1 b2 b3 vp p) (hB4 : BoxAt V b4 #[.func (.yield l) #[] #[]] 306) (hS4 : ¬ Bad g6 V b4) (hJ : OwnFrom B J) (hBV : B ≤ V.heap.size) (hNV : N ≤ V.heap.size) (hM : pre.length + ls.length ≤ M) (hY : YOk g6 N M l J) (hD : DefAt Ds V) (hND : ∀ D, D ∈ Ds → N ≤ D) (h0 : J pre V)
    (e : Ext V wo) (ho : OwnI wo V.heap.size (.slice a6 n c) q) {x0 x5 x6 x7 x8 x9 x10 x11 x12 x13 x14 x15 x16 x17 x18 x19 x20 x21 x22 x23 x24 x25 x26 x27 x28 x29 x30 x31 x32 x33 x34 x35 x36 x37 x38 x39 x40 x41 x42 x43 x45 x46 x47 x48 x49 : Value} {df : List Deferred} {Q : Exit → Act → World → Prop}
    (hdone : ∀ (xs : List VL) (W : World) (D : Nat), xs.map (·.2) = ls → RI g6 b1 b2 b3 b4 vp p l J (pre ++ xs) V.heap.size (D :: Ds) [] W → D ∉ Ds → V.heap.size ≤ D → Q .normal { tmps := (x0 :: .pointer (some ⟨b1, 0, none⟩) :: .pointer (some ⟨b2, 0, none⟩) :: .pointer (some ⟨b3, 0, none⟩) :: .pointer (some ⟨b4, 0, none⟩) :: x5 :: x6 :: x7 :: x8 :: x9 :: x10 :: x11 :: x12 :: x13 :: x14 :: x15 :: x16 :: x17 :: x18 :: x19 :: x20 :: x21 :: x22 :: x23 :: x24 :: x25 :: x26 :: x27 :: x28 :: x29 :: x30 :: x31 :: x32 :: x33 :: x34 :: x35 :: x36 :: x37 :: x38 :: x39 :: x40 :: x41 :: x42 :: x43 :: .func (.func 206) #[] (setsV wo) :: x45 :: x46 :: x47 :: x48 :: x49 :: []).toArray, defers := { target := .collected D, args := #[] } :: df } W) :
    ∀ c', Tryz.f206.body.bind findF = some c' → c'.wpIn Fence.wide 5 Tryz.prog Q { tmps := (x0 :: .pointer (some ⟨b1, 0, none⟩) :: .pointer (some ⟨b2, 0, none⟩) :: .pointer (some ⟨b3, 0, none⟩) :: .pointer (some ⟨b4, 0, none⟩) :: x5 :: x6 :: x7 :: x8 :: x9 :: x10 :: x11 :: x12 :: x13 :: x14 :: x15 :: x16 :: x17 :: x18 :: x19 :: x20 :: x21 :: x22 :: x23 :: x24 :: x25 :: x26 :: x27 :: x28 :: x29 :: x30 :: x31 :: x32 :: x33 :: x34 :: x35 :: x36 :: x37 :: x38 :: x39 :: x40 :: x41 :: x42 :: x43 :: .func (.func 206) #[] (setsV wo) :: x45 :: x46 :: x47 :: x48 :: x49 :: []).toArray, defers := df } (setsW wo (.slice a6 n c)) := by
  intro c' hc'
  simp only [Tryz.f206, Option.bind_some, findF] at hc'
  cases hc'
  have eU : Ext V (setsW wo (.slice a6 n c)) := e.trans ((Ext.alloc _ _).trans ((Ext.alloc _ _).trans (Ext.alloc _ _)))
  have oU : OwnI (setsW wo (.slice a6 n c)) V.heap.size (.slice a6 n c) q := ho.ext ((Ext.alloc _ _).trans ((Ext.alloc _ _).trans (Ext.alloc _ _)))
  have B1 : BoxAt (setsW wo (.slice a6 n c)) wo.heap.size #[.slice a6 n c] 40 := ((BoxAt.new _ _ _).ext (Ext.alloc _ _)).ext (Ext.alloc _ _)
  have B3 : BoxAt (setsW wo (.slice a6 n c)) (wo.heap.size + 1) #[.int .i64 5] 3 := by
    have := BoxAt.new (wo.alloc (.cells #[.slice a6 n c] 40)) #[.int .i64 5] 3
    rw [World.size_alloc] at this
    exact this.ext (Ext.alloc _ _)
  have B2 : BoxAt (setsW wo (.slice a6 n c)) (wo.heap.size + 1 + 1) #[.int .i64 4] 3 := by
    have := BoxAt.new ((wo.alloc (.cells #[.slice a6 n c] 40)).alloc (.cells #[.int .i64 5] 3)) #[.int .i64 4] 3
    rw [World.size_alloc, World.size_alloc] at this
    exact this
  have hes := e.size
  have hus := eU.size
  have hNU : NodeAt g6 (setsW wo (.slice a6 n c)) wo.heap.size (wo.heap.size + 1 + 1) (wo.heap.size + 1) (.slice a6 n c) q :=
    ⟨(KP.ext (N := 0) eU hN.fin.1).fin hN.fin, B1, B2, B3, oU.lower (Nat.zero_le _), new_safe hN.fin eU (by omega), new_safe hN.fin eU (by omega), new_safe hN.fin eU (by omega), fun g hg => new_safe hN.fin eU (oU.lt g hg).1⟩
  have hgU : g6 < (setsW wo (.slice a6 n c)).heap.size := hNU.fin.1
  have hVs := hN.keep (KP.ext (N := 0) eU hN.fin.1)
  have hI0 : RI g6 b1 b2 b3 b4 vp p l J pre V.heap.size Ds [] (setsW wo (.slice a6 n c)) :=
    ⟨by rw [List.append_nil]; exact hJ _ _ _ none h0 (grown_ext eU none) (fun r e => by cases e), hVs, hB4.ext eU, new_keep hN.fin eU hS4 hB4.lt, hus, hD.ext eU⟩
  have hDU : ∀ D, D ∈ Ds → D < (setsW wo (.slice a6 n c)).heap.size := fun D hD' => Nat.lt_of_lt_of_le (Array.getElem?_eq_some_iff.1 (hD D hD')).1 hus
  have hseq := fun k => child_seq hc hNU k
  have heq : setsV wo = #[.pointer (some ⟨wo.heap.size, 0, none⟩), .pointer (some ⟨wo.heap.size + 1 + 1, 0, none⟩), .pointer (some ⟨wo.heap.size + 1, 0, none⟩)] := rfl
  have hBU : B ≤ (setsW wo (.slice a6 n c)).heap.size := Nat.le_trans hBV hus
  have hNU' : N ≤ (setsW wo (.slice a6 n c)).heap.size := Nat.le_trans hNV hus
  rw [heq]
  rw [heq] at hdone
  clear oU B1 B2 B3 hNU hVs hes heq ho e eU
  generalize setsW wo (.slice a6 n c) = U at *
  refine wpIn_rangeFunc_ownE rfl (by decide) (gf := 206) rfl trivial (enters_of Tryz.func206 (by kernel_rfl) rfl) (hseq (5 - 1)) KP.trans (fun W o o' hk hcl => KP.put o' (by omega) (by omega) hk hcl) (Below.refl _ _) (fun _ => rfl)
    (fun x => OwnFrom.and own_ownFrom (fin_own hgU)) (RI g6 b1 b2 b3 b4 vp p l J pre V.heap.size Ds) (ri_own hJ hBU hgU hDU) hI0
    (fun x => { tmps := (x0 :: .pointer (some ⟨b1, 0, none⟩) :: .pointer (some ⟨b2, 0, none⟩) :: .pointer (some ⟨b3, 0, none⟩) :: .pointer (some ⟨b4, 0, none⟩) :: x5 :: x6 :: x.1 :: x8 :: x9 :: x10 :: x11 :: x12 :: x13 :: x14 :: x15 :: x16 :: x17 :: x18 :: x19 :: x20 :: x21 :: x22 :: x23 :: x24 :: x25 :: x26 :: x27 :: x28 :: x29 :: x30 :: x31 :: x32 :: x33 :: x34 :: x35 :: x36 :: x37 :: x38 :: x39 :: x40 :: x41 :: x42 :: x43 :: .func (.func 206) #[] (setsV wo) :: x.1 :: x46 :: x47 :: x48 :: x49 :: []).toArray, defers := [] }) ?assign ?body ?done
  case assign =>
    intro l' x W K hK
    gi_wp2
    exact hK
  case body =>
    rintro l' acc x W hlen hR ⟨hes, hfin⟩
    have c4 : W.cell? ⟨b4, 0, none⟩ = some (.func (.yield l) #[] #[]) := hR.box4.cell 0 rfl
    have l4 := hR.box4.lt
    obtain ⟨fn, tmps, assign, body, hy, hRd⟩ := hY _ x W (by rw [List.length_append]; omega) hR.j hes hfin
    have HR := Lib.hid hR
    clear hR
    gi_wp2
    refine (round_inner hRd).mono ?_
    rintro e w6 ⟨rfl, hJ6, hk6⟩
    gi_wp2
    have hR := HR.out
    have hb4 := hk6.box hR.box4 hR.bad4
    refine ⟨⟨hk6.size, fun k o hk ho hnc => hk6.nonc k o (by omega) ho hnc⟩, hk6.more (by omega), ⟨by rw [← List.append_assoc]; exact hJ6, hR.node.keep hk6, hb4.1, hb4.2, Nat.le_trans hR.size hk6.size, fun D hD' => ?_⟩⟩
    have hd := hR.defs D hD'
    exact hk6.nonc D _ (by have := hND D hD'; omega) hd rfl
  case done =>
    rintro D xs W hD hS hI hDW
    refine hdone xs W D hS ⟨by rw [List.append_nil]; exact hI.j, hI.node, hI.box4, hI.bad4, hI.size, hI.defs.cons hDW⟩ (fun h => ?_) (by omega)
    have := hDU D h
    omega
end Go.Proofs.YtjabgpejmnpamaaGreatDoor

namespace Go.Proofs.YtjabgpejmnpamaaGreatDoor
open Go.RowKit Go.Shelf
set_option maxRecDepth 100000
attribute [local go_sem] Oper.semAt_some
set_option maxHeartbeats 8000000 in
theorem node_0_1 {g6 : Nat} {p : List Int} (hp : p.length = 0) {ls0 : List (List Int)} (hc0 : Node g6 (p ++ [0]) ls0) {ls1 : List (List Int)} (hc1 : Node g6 (p ++ [1]) ls1) : Node g6 p (ls0 ++ ls1) := by
  intro N M l b1 b2 b3 vp pre0 J W hN hJ hNW hM hY h0
  (try rw [List.length_append] at hM)
  obtain ⟨pa, pc, hvp⟩ := hN.own.shape
  rw [hp] at hvp
  subst hvp
  have HN := Lib.hid hN
  clear hN
  refine callsIn_of_wp_marks Tryz.func206 rfl trivial ?_ rfl
  simp only [Tryz.ntmps206, setsArgs, List.size_toArray, List.length_cons, List.length_nil, Nat.reduceAdd, Nat.reduceSub, Array.replicate_succ, Array.replicate_zero, List.push_toArray, List.append_toArray, List.nil_append, List.cons_append]
  have c1 : W.cell? ⟨b1, 0, none⟩ = some (.slice pa 0 pc) := HN.out.box1.cell 0 rfl
  have c2 : W.cell? ⟨b2, 0, none⟩ = some (.int .i64 4) := HN.out.box2.cell 0 rfl
  have c3 : W.cell? ⟨b3, 0, none⟩ = some (.int .i64 5) := HN.out.box3.cell 0 rfl
  have l1 := HN.out.box1.lt
  have l2 := HN.out.box2.lt
  have l3 := HN.out.box3.lt
  gi_wp2
  have e0 : Ext W (W.alloc (.cells #[.func (.yield l) #[] #[]] 306)) := Ext.alloc _ _
  have hR0 : Hid (RI g6 b1 b2 b3 W.heap.size (.slice pa 0 pc) p l J pre0 W.heap.size [] [] (W.alloc (.cells #[.func (.yield l) #[] #[]] 306))) :=
    ⟨by show J _ _; rw [List.append_nil]; exact hJ _ _ _ none h0 (grown_ext e0 none) (fun r e => by cases e), HN.out.keep (KP.ext (N := N) e0 HN.out.fin.1), BoxAt.new _ _ _, new_safe HN.out.fin e0 (Nat.le_refl _), e0.size, DefAt.nil _⟩
  have hV0 := e0.size
  have hn0 : ∀ D, D ∈ ([] : List Nat) → W.heap.size ≤ D := fun _ h => absurd h (by simp)
  have hdup0 : ([] : List Nat).Nodup := List.nodup_nil
  generalize (W.alloc (.cells #[.func (.yield l) #[] #[]] 306)) = V0 at *
  generalize W.heap.size = b4 at hR0 ⊢
  clear c1 c2 c3 l1 l2 l3 e0 HN
  refine wpIn_loop_rounds 3 ?_
  -- round 0
  rw [roundsIn_succ]
  have c1 : V0.cell? ⟨b1, 0, none⟩ = some (.slice pa 0 pc) := hR0.out.node.box1.cell 0 rfl
  have c2 : V0.cell? ⟨b2, 0, none⟩ = some (.int .i64 4) := hR0.out.node.box2.cell 0 rfl
  have c3 : V0.cell? ⟨b3, 0, none⟩ = some (.int .i64 5) := hR0.out.node.box3.cell 0 rfl
  have l1 := hR0.out.node.box1.lt
  have l2 := hR0.out.node.box2.lt
  have l3 := hR0.out.node.box3.lt
  gi_wp2
  refine reg9_any (d := 0) hp (by decide) c1 c2 c3 l1 l2 l3 hR0.out.node.own ?_ _ (by kernel_rfl)
  intro v5 v4 a6 c6 wo ex ho
  gi_wp2
  refine rng_any (q := p ++ [0]) hc0 hR0.out.node hR0.out.box4 hR0.out.bad4 hJ (by omega) (by omega) (by (try rw [List.length_append]); omega) hY hR0.out.defs (fun D h => Nat.le_trans hNW (hn0 D h)) (show J (pre0) _ from by rw [← List.append_nil (pre0)]; exact hR0.out.j) ex ho ?_ _ (by kernel_rfl)
  intro xs0 V1 D0 hxs0 hr1 hD0 hDN0
  have hR1 := Lib.hid hr1
  have hlx0 : xs0.length = ls0.length := by rw [← hxs0, List.length_map]
  have hV1 : W.heap.size ≤ V1.heap.size := Nat.le_trans hV0 hr1.size
  have hn1 : ∀ D, D ∈ D0 :: [] → W.heap.size ≤ D := fun D h => by rcases List.mem_cons.1 h with rfl | h; exact Nat.le_trans hV0 hDN0; exact hn0 D h
  have hdup1 : (D0 :: []).Nodup := List.nodup_cons.2 ⟨hD0, hdup0⟩
  clear hr1 c1 c2 c3 l1 l2 l3 ex ho
  gi_wp2
  -- round 1
  rw [roundsIn_succ]
  have c1 : V1.cell? ⟨b1, 0, none⟩ = some (.slice pa 0 pc) := hR1.out.node.box1.cell 0 rfl
  have c2 : V1.cell? ⟨b2, 0, none⟩ = some (.int .i64 4) := hR1.out.node.box2.cell 0 rfl
  have c3 : V1.cell? ⟨b3, 0, none⟩ = some (.int .i64 5) := hR1.out.node.box3.cell 0 rfl
  have l1 := hR1.out.node.box1.lt
  have l2 := hR1.out.node.box2.lt
  have l3 := hR1.out.node.box3.lt
  gi_wp2
  refine reg9_any (d := 1) hp (by decide) c1 c2 c3 l1 l2 l3 hR1.out.node.own ?_ _ (by kernel_rfl)
  intro v5 v4 a6 c6 wo ex ho
  gi_wp2
  refine rng_any (q := p ++ [1]) hc1 hR1.out.node hR1.out.box4 hR1.out.bad4 hJ (by omega) (by omega) (by (try rw [List.length_append]); omega) hY hR1.out.defs (fun D h => Nat.le_trans hNW (hn1 D h)) (show J (pre0 ++ xs0) _ from by rw [← List.append_nil (pre0 ++ xs0)]; exact hR1.out.j) ex ho ?_ _ (by kernel_rfl)
  intro xs1 V2 D1 hxs1 hr2 hD1 hDN1
  have hR2 := Lib.hid hr2
  have hlx1 : xs1.length = ls1.length := by rw [← hxs1, List.length_map]
  have hV2 : W.heap.size ≤ V2.heap.size := Nat.le_trans hV1 hr2.size
  have hn2 : ∀ D, D ∈ D1 :: [D0] → W.heap.size ≤ D := fun D h => by rcases List.mem_cons.1 h with rfl | h; exact Nat.le_trans hV1 hDN1; exact hn1 D h
  have hdup2 : (D1 :: [D0]).Nodup := List.nodup_cons.2 ⟨hD1, hdup1⟩
  clear hr2 c1 c2 c3 l1 l2 l3 ex ho
  gi_wp2
  -- the end
  rw [roundsIn_succ]
  have c1 : V2.cell? ⟨b1, 0, none⟩ = some (.slice pa 0 pc) := hR2.out.node.box1.cell 0 rfl
  have c2 : V2.cell? ⟨b2, 0, none⟩ = some (.int .i64 4) := hR2.out.node.box2.cell 0 rfl
  have c3 : V2.cell? ⟨b3, 0, none⟩ = some (.int .i64 5) := hR2.out.node.box3.cell 0 rfl
  have l1 := hR2.out.node.box1.lt
  have l2 := hR2.out.node.box2.lt
  have l3 := hR2.out.node.box3.lt
  gi_wp2
  refine leaves_marks [D1, D0] V2 hR2.out.defs hdup2 (fun W' hW' => ⟨_, results_none rfl _ _ _, ⟨_, rfl⟩, xs0 ++ xs1, by rw [List.map_append, hxs0, hxs1], hW' (J (pre0 ++ (xs0 ++ xs1))) (fun V D o hv hd hk => hJ.putObj _ hv (hn2 D hd) hk rfl) ?_⟩)
  rw [← List.append_nil (pre0 ++ _), ← List.append_assoc pre0]
  exact hR2.out.j
set_option maxHeartbeats 8000000 in
theorem node_1_1 {g6 : Nat} {p : List Int} (hp : p.length = 1) (hlast : p.getD 0 0 = 0) {ls0 : List (List Int)} (hc0 : Node g6 (p ++ [1]) ls0) {ls1 : List (List Int)} (hc1 : Node g6 (p ++ [2]) ls1) : Node g6 p (ls0 ++ ls1) := by
  intro N M l b1 b2 b3 vp pre0 J W hN hJ hNW hM hY h0
  (try rw [List.length_append] at hM)
  obtain ⟨pa, pc, hvp⟩ := hN.own.shape
  rw [hp] at hvp
  subst hvp
  obtain ⟨pb, po, rfl, hpbl, hpl⟩ := hN.own.slice.get 0 (by omega)
  rw [show p[0] = 0 from by rw [← getD_in (d := 0)]; exact hlast] at hpl
  (try simp only [Nat.add_zero] at hpl)
  have HN := Lib.hid hN
  clear hN
  refine callsIn_of_wp_marks Tryz.func206 rfl trivial ?_ rfl
  simp only [Tryz.ntmps206, setsArgs, List.size_toArray, List.length_cons, List.length_nil, Nat.reduceAdd, Nat.reduceSub, Array.replicate_succ, Array.replicate_zero, List.push_toArray, List.append_toArray, List.nil_append, List.cons_append]
  have c1 : W.cell? ⟨b1, 0, none⟩ = some (.slice (some ⟨pb, po, none⟩) 1 pc) := HN.out.box1.cell 0 rfl
  have c2 : W.cell? ⟨b2, 0, none⟩ = some (.int .i64 4) := HN.out.box2.cell 0 rfl
  have c3 : W.cell? ⟨b3, 0, none⟩ = some (.int .i64 5) := HN.out.box3.cell 0 rfl
  have l1 := HN.out.box1.lt
  have l2 := HN.out.box2.lt
  have l3 := HN.out.box3.lt
  gi_wp2
  have e0 : Ext W (W.alloc (.cells #[.func (.yield l) #[] #[]] 306)) := Ext.alloc _ _
  have hR0 : Hid (RI g6 b1 b2 b3 W.heap.size (.slice (some ⟨pb, po, none⟩) 1 pc) p l J pre0 W.heap.size [] [] (W.alloc (.cells #[.func (.yield l) #[] #[]] 306))) :=
    ⟨by show J _ _; rw [List.append_nil]; exact hJ _ _ _ none h0 (grown_ext e0 none) (fun r e => by cases e), HN.out.keep (KP.ext (N := N) e0 HN.out.fin.1), BoxAt.new _ _ _, new_safe HN.out.fin e0 (Nat.le_refl _), e0.size, DefAt.nil _⟩
  have hV0 := e0.size
  have hn0 : ∀ D, D ∈ ([] : List Nat) → W.heap.size ≤ D := fun _ h => absurd h (by simp)
  have hdup0 : ([] : List Nat).Nodup := List.nodup_nil
  generalize (W.alloc (.cells #[.func (.yield l) #[] #[]] 306)) = V0 at *
  generalize W.heap.size = b4 at hR0 ⊢
  clear c1 c2 c3 l1 l2 l3 e0 HN
  refine wpIn_loop_rounds 3 ?_
  -- round 0
  rw [roundsIn_succ]
  have c1 : V0.cell? ⟨b1, 0, none⟩ = some (.slice (some ⟨pb, po, none⟩) 1 pc) := hR0.out.node.box1.cell 0 rfl
  have c2 : V0.cell? ⟨b2, 0, none⟩ = some (.int .i64 4) := hR0.out.node.box2.cell 0 rfl
  have c3 : V0.cell? ⟨b3, 0, none⟩ = some (.int .i64 5) := hR0.out.node.box3.cell 0 rfl
  have l1 := hR0.out.node.box1.lt
  have l2 := hR0.out.node.box2.lt
  have l3 := hR0.out.node.box3.lt
  gi_wp2
  refine reg9_any (d := 1) hp (by decide) c1 c2 c3 l1 l2 l3 hR0.out.node.own ?_ _ (by kernel_rfl)
  intro v5 v4 a6 c6 wo ex ho
  gi_wp2
  refine rng_any (q := p ++ [1]) hc0 hR0.out.node hR0.out.box4 hR0.out.bad4 hJ (by omega) (by omega) (by (try rw [List.length_append]); omega) hY hR0.out.defs (fun D h => Nat.le_trans hNW (hn0 D h)) (show J (pre0) _ from by rw [← List.append_nil (pre0)]; exact hR0.out.j) ex ho ?_ _ (by kernel_rfl)
  intro xs0 V1 D0 hxs0 hr1 hD0 hDN0
  have hR1 := Lib.hid hr1
  have hlx0 : xs0.length = ls0.length := by rw [← hxs0, List.length_map]
  have hV1 : W.heap.size ≤ V1.heap.size := Nat.le_trans hV0 hr1.size
  have hn1 : ∀ D, D ∈ D0 :: [] → W.heap.size ≤ D := fun D h => by rcases List.mem_cons.1 h with rfl | h; exact Nat.le_trans hV0 hDN0; exact hn0 D h
  have hdup1 : (D0 :: []).Nodup := List.nodup_cons.2 ⟨hD0, hdup0⟩
  clear hr1 c1 c2 c3 l1 l2 l3 ex ho
  gi_wp2
  -- round 1
  rw [roundsIn_succ]
  have c1 : V1.cell? ⟨b1, 0, none⟩ = some (.slice (some ⟨pb, po, none⟩) 1 pc) := hR1.out.node.box1.cell 0 rfl
  have c2 : V1.cell? ⟨b2, 0, none⟩ = some (.int .i64 4) := hR1.out.node.box2.cell 0 rfl
  have c3 : V1.cell? ⟨b3, 0, none⟩ = some (.int .i64 5) := hR1.out.node.box3.cell 0 rfl
  have l1 := hR1.out.node.box1.lt
  have l2 := hR1.out.node.box2.lt
  have l3 := hR1.out.node.box3.lt
  gi_wp2
  refine reg9_any (d := 2) hp (by decide) c1 c2 c3 l1 l2 l3 hR1.out.node.own ?_ _ (by kernel_rfl)
  intro v5 v4 a6 c6 wo ex ho
  gi_wp2
  refine rng_any (q := p ++ [2]) hc1 hR1.out.node hR1.out.box4 hR1.out.bad4 hJ (by omega) (by omega) (by (try rw [List.length_append]); omega) hY hR1.out.defs (fun D h => Nat.le_trans hNW (hn1 D h)) (show J (pre0 ++ xs0) _ from by rw [← List.append_nil (pre0 ++ xs0)]; exact hR1.out.j) ex ho ?_ _ (by kernel_rfl)
  intro xs1 V2 D1 hxs1 hr2 hD1 hDN1
  have hR2 := Lib.hid hr2
  have hlx1 : xs1.length = ls1.length := by rw [← hxs1, List.length_map]
  have hV2 : W.heap.size ≤ V2.heap.size := Nat.le_trans hV1 hr2.size
  have hn2 : ∀ D, D ∈ D1 :: [D0] → W.heap.size ≤ D := fun D h => by rcases List.mem_cons.1 h with rfl | h; exact Nat.le_trans hV1 hDN1; exact hn1 D h
  have hdup2 : (D1 :: [D0]).Nodup := List.nodup_cons.2 ⟨hD1, hdup1⟩
  clear hr2 c1 c2 c3 l1 l2 l3 ex ho
  gi_wp2
  -- the end
  rw [roundsIn_succ]
  have c1 : V2.cell? ⟨b1, 0, none⟩ = some (.slice (some ⟨pb, po, none⟩) 1 pc) := hR2.out.node.box1.cell 0 rfl
  have c2 : V2.cell? ⟨b2, 0, none⟩ = some (.int .i64 4) := hR2.out.node.box2.cell 0 rfl
  have c3 : V2.cell? ⟨b3, 0, none⟩ = some (.int .i64 5) := hR2.out.node.box3.cell 0 rfl
  have l1 := hR2.out.node.box1.lt
  have l2 := hR2.out.node.box2.lt
  have l3 := hR2.out.node.box3.lt
  gi_wp2
  refine leaves_marks [D1, D0] V2 hR2.out.defs hdup2 (fun W' hW' => ⟨_, results_none rfl _ _ _, ⟨_, rfl⟩, xs0 ++ xs1, by rw [List.map_append, hxs0, hxs1], hW' (J (pre0 ++ (xs0 ++ xs1))) (fun V D o hv hd hk => hJ.putObj _ hv (hn2 D hd) hk rfl) ?_⟩)
  rw [← List.append_nil (pre0 ++ _), ← List.append_assoc pre0]
  exact hR2.out.j
set_option maxHeartbeats 8000000 in
theorem node_1_0 {g6 : Nat} {p : List Int} (hp : p.length = 1) (hlast : p.getD 0 0 = 1) {ls0 : List (List Int)} (hc0 : Node g6 (p ++ [2]) ls0) : Node g6 p (ls0) := by
  intro N M l b1 b2 b3 vp pre0 J W hN hJ hNW hM hY h0
  (try rw [List.length_append] at hM)
  obtain ⟨pa, pc, hvp⟩ := hN.own.shape
  rw [hp] at hvp
  subst hvp
  obtain ⟨pb, po, rfl, hpbl, hpl⟩ := hN.own.slice.get 0 (by omega)
  rw [show p[0] = 1 from by rw [← getD_in (d := 0)]; exact hlast] at hpl
  (try simp only [Nat.add_zero] at hpl)
  have HN := Lib.hid hN
  clear hN
  refine callsIn_of_wp_marks Tryz.func206 rfl trivial ?_ rfl
  simp only [Tryz.ntmps206, setsArgs, List.size_toArray, List.length_cons, List.length_nil, Nat.reduceAdd, Nat.reduceSub, Array.replicate_succ, Array.replicate_zero, List.push_toArray, List.append_toArray, List.nil_append, List.cons_append]
  have c1 : W.cell? ⟨b1, 0, none⟩ = some (.slice (some ⟨pb, po, none⟩) 1 pc) := HN.out.box1.cell 0 rfl
  have c2 : W.cell? ⟨b2, 0, none⟩ = some (.int .i64 4) := HN.out.box2.cell 0 rfl
  have c3 : W.cell? ⟨b3, 0, none⟩ = some (.int .i64 5) := HN.out.box3.cell 0 rfl
  have l1 := HN.out.box1.lt
  have l2 := HN.out.box2.lt
  have l3 := HN.out.box3.lt
  gi_wp2
  have e0 : Ext W (W.alloc (.cells #[.func (.yield l) #[] #[]] 306)) := Ext.alloc _ _
  have hR0 : Hid (RI g6 b1 b2 b3 W.heap.size (.slice (some ⟨pb, po, none⟩) 1 pc) p l J pre0 W.heap.size [] [] (W.alloc (.cells #[.func (.yield l) #[] #[]] 306))) :=
    ⟨by show J _ _; rw [List.append_nil]; exact hJ _ _ _ none h0 (grown_ext e0 none) (fun r e => by cases e), HN.out.keep (KP.ext (N := N) e0 HN.out.fin.1), BoxAt.new _ _ _, new_safe HN.out.fin e0 (Nat.le_refl _), e0.size, DefAt.nil _⟩
  have hV0 := e0.size
  have hn0 : ∀ D, D ∈ ([] : List Nat) → W.heap.size ≤ D := fun _ h => absurd h (by simp)
  have hdup0 : ([] : List Nat).Nodup := List.nodup_nil
  generalize (W.alloc (.cells #[.func (.yield l) #[] #[]] 306)) = V0 at *
  generalize W.heap.size = b4 at hR0 ⊢
  clear c1 c2 c3 l1 l2 l3 e0 HN
  refine wpIn_loop_rounds 2 ?_
  -- round 0
  rw [roundsIn_succ]
  have c1 : V0.cell? ⟨b1, 0, none⟩ = some (.slice (some ⟨pb, po, none⟩) 1 pc) := hR0.out.node.box1.cell 0 rfl
  have c2 : V0.cell? ⟨b2, 0, none⟩ = some (.int .i64 4) := hR0.out.node.box2.cell 0 rfl
  have c3 : V0.cell? ⟨b3, 0, none⟩ = some (.int .i64 5) := hR0.out.node.box3.cell 0 rfl
  have l1 := hR0.out.node.box1.lt
  have l2 := hR0.out.node.box2.lt
  have l3 := hR0.out.node.box3.lt
  gi_wp2
  refine reg9_any (d := 2) hp (by decide) c1 c2 c3 l1 l2 l3 hR0.out.node.own ?_ _ (by kernel_rfl)
  intro v5 v4 a6 c6 wo ex ho
  gi_wp2
  refine rng_any (q := p ++ [2]) hc0 hR0.out.node hR0.out.box4 hR0.out.bad4 hJ (by omega) (by omega) (by (try rw [List.length_append]); omega) hY hR0.out.defs (fun D h => Nat.le_trans hNW (hn0 D h)) (show J (pre0) _ from by rw [← List.append_nil (pre0)]; exact hR0.out.j) ex ho ?_ _ (by kernel_rfl)
  intro xs0 V1 D0 hxs0 hr1 hD0 hDN0
  have hR1 := Lib.hid hr1
  have hlx0 : xs0.length = ls0.length := by rw [← hxs0, List.length_map]
  have hV1 : W.heap.size ≤ V1.heap.size := Nat.le_trans hV0 hr1.size
  have hn1 : ∀ D, D ∈ D0 :: [] → W.heap.size ≤ D := fun D h => by rcases List.mem_cons.1 h with rfl | h; exact Nat.le_trans hV0 hDN0; exact hn0 D h
  have hdup1 : (D0 :: []).Nodup := List.nodup_cons.2 ⟨hD0, hdup0⟩
  clear hr1 c1 c2 c3 l1 l2 l3 ex ho
  gi_wp2
  -- the end
  rw [roundsIn_succ]
  have c1 : V1.cell? ⟨b1, 0, none⟩ = some (.slice (some ⟨pb, po, none⟩) 1 pc) := hR1.out.node.box1.cell 0 rfl
  have c2 : V1.cell? ⟨b2, 0, none⟩ = some (.int .i64 4) := hR1.out.node.box2.cell 0 rfl
  have c3 : V1.cell? ⟨b3, 0, none⟩ = some (.int .i64 5) := hR1.out.node.box3.cell 0 rfl
  have l1 := hR1.out.node.box1.lt
  have l2 := hR1.out.node.box2.lt
  have l3 := hR1.out.node.box3.lt
  gi_wp2
  refine leaves_marks [D0] V1 hR1.out.defs hdup1 (fun W' hW' => ⟨_, results_none rfl _ _ _, ⟨_, rfl⟩, xs0, by exact hxs0, hW' (J (pre0 ++ (xs0))) (fun V D o hv hd hk => hJ.putObj _ hv (hn1 D hd) hk rfl) ?_⟩)
  rw [← List.append_nil (pre0 ++ _)]
  exact hR1.out.j
set_option maxHeartbeats 8000000 in
theorem node_2_1 {g6 : Nat} {p : List Int} (hp : p.length = 2) (hlast : p.getD 1 0 = 1) {ls0 : List (List Int)} (hc0 : Node g6 (p ++ [2]) ls0) {ls1 : List (List Int)} (hc1 : Node g6 (p ++ [3]) ls1) : Node g6 p (ls0 ++ ls1) := by
  intro N M l b1 b2 b3 vp pre0 J W hN hJ hNW hM hY h0
  (try rw [List.length_append] at hM)
  obtain ⟨pa, pc, hvp⟩ := hN.own.shape
  rw [hp] at hvp
  subst hvp
  obtain ⟨pb, po, rfl, hpbl, hpl⟩ := hN.own.slice.get 1 (by omega)
  rw [show p[1] = 1 from by rw [← getD_in (d := 0)]; exact hlast] at hpl
  (try simp only [Nat.add_zero] at hpl)
  have HN := Lib.hid hN
  clear hN
  refine callsIn_of_wp_marks Tryz.func206 rfl trivial ?_ rfl
  simp only [Tryz.ntmps206, setsArgs, List.size_toArray, List.length_cons, List.length_nil, Nat.reduceAdd, Nat.reduceSub, Array.replicate_succ, Array.replicate_zero, List.push_toArray, List.append_toArray, List.nil_append, List.cons_append]
  have c1 : W.cell? ⟨b1, 0, none⟩ = some (.slice (some ⟨pb, po, none⟩) 2 pc) := HN.out.box1.cell 0 rfl
  have c2 : W.cell? ⟨b2, 0, none⟩ = some (.int .i64 4) := HN.out.box2.cell 0 rfl
  have c3 : W.cell? ⟨b3, 0, none⟩ = some (.int .i64 5) := HN.out.box3.cell 0 rfl
  have l1 := HN.out.box1.lt
  have l2 := HN.out.box2.lt
  have l3 := HN.out.box3.lt
  gi_wp2
  have e0 : Ext W (W.alloc (.cells #[.func (.yield l) #[] #[]] 306)) := Ext.alloc _ _
  have hR0 : Hid (RI g6 b1 b2 b3 W.heap.size (.slice (some ⟨pb, po, none⟩) 2 pc) p l J pre0 W.heap.size [] [] (W.alloc (.cells #[.func (.yield l) #[] #[]] 306))) :=
    ⟨by show J _ _; rw [List.append_nil]; exact hJ _ _ _ none h0 (grown_ext e0 none) (fun r e => by cases e), HN.out.keep (KP.ext (N := N) e0 HN.out.fin.1), BoxAt.new _ _ _, new_safe HN.out.fin e0 (Nat.le_refl _), e0.size, DefAt.nil _⟩
  have hV0 := e0.size
  have hn0 : ∀ D, D ∈ ([] : List Nat) → W.heap.size ≤ D := fun _ h => absurd h (by simp)
  have hdup0 : ([] : List Nat).Nodup := List.nodup_nil
  generalize (W.alloc (.cells #[.func (.yield l) #[] #[]] 306)) = V0 at *
  generalize W.heap.size = b4 at hR0 ⊢
  clear c1 c2 c3 l1 l2 l3 e0 HN
  refine wpIn_loop_rounds 3 ?_
  -- round 0
  rw [roundsIn_succ]
  have c1 : V0.cell? ⟨b1, 0, none⟩ = some (.slice (some ⟨pb, po, none⟩) 2 pc) := hR0.out.node.box1.cell 0 rfl
  have c2 : V0.cell? ⟨b2, 0, none⟩ = some (.int .i64 4) := hR0.out.node.box2.cell 0 rfl
  have c3 : V0.cell? ⟨b3, 0, none⟩ = some (.int .i64 5) := hR0.out.node.box3.cell 0 rfl
  have l1 := hR0.out.node.box1.lt
  have l2 := hR0.out.node.box2.lt
  have l3 := hR0.out.node.box3.lt
  gi_wp2
  refine reg9_any (d := 2) hp (by decide) c1 c2 c3 l1 l2 l3 hR0.out.node.own ?_ _ (by kernel_rfl)
  intro v5 v4 a6 c6 wo ex ho
  gi_wp2
  refine rng_any (q := p ++ [2]) hc0 hR0.out.node hR0.out.box4 hR0.out.bad4 hJ (by omega) (by omega) (by (try rw [List.length_append]); omega) hY hR0.out.defs (fun D h => Nat.le_trans hNW (hn0 D h)) (show J (pre0) _ from by rw [← List.append_nil (pre0)]; exact hR0.out.j) ex ho ?_ _ (by kernel_rfl)
  intro xs0 V1 D0 hxs0 hr1 hD0 hDN0
  have hR1 := Lib.hid hr1
  have hlx0 : xs0.length = ls0.length := by rw [← hxs0, List.length_map]
  have hV1 : W.heap.size ≤ V1.heap.size := Nat.le_trans hV0 hr1.size
  have hn1 : ∀ D, D ∈ D0 :: [] → W.heap.size ≤ D := fun D h => by rcases List.mem_cons.1 h with rfl | h; exact Nat.le_trans hV0 hDN0; exact hn0 D h
  have hdup1 : (D0 :: []).Nodup := List.nodup_cons.2 ⟨hD0, hdup0⟩
  clear hr1 c1 c2 c3 l1 l2 l3 ex ho
  gi_wp2
  -- round 1
  rw [roundsIn_succ]
  have c1 : V1.cell? ⟨b1, 0, none⟩ = some (.slice (some ⟨pb, po, none⟩) 2 pc) := hR1.out.node.box1.cell 0 rfl
  have c2 : V1.cell? ⟨b2, 0, none⟩ = some (.int .i64 4) := hR1.out.node.box2.cell 0 rfl
  have c3 : V1.cell? ⟨b3, 0, none⟩ = some (.int .i64 5) := hR1.out.node.box3.cell 0 rfl
  have l1 := hR1.out.node.box1.lt
  have l2 := hR1.out.node.box2.lt
  have l3 := hR1.out.node.box3.lt
  gi_wp2
  refine reg9_any (d := 3) hp (by decide) c1 c2 c3 l1 l2 l3 hR1.out.node.own ?_ _ (by kernel_rfl)
  intro v5 v4 a6 c6 wo ex ho
  gi_wp2
  refine rng_any (q := p ++ [3]) hc1 hR1.out.node hR1.out.box4 hR1.out.bad4 hJ (by omega) (by omega) (by (try rw [List.length_append]); omega) hY hR1.out.defs (fun D h => Nat.le_trans hNW (hn1 D h)) (show J (pre0 ++ xs0) _ from by rw [← List.append_nil (pre0 ++ xs0)]; exact hR1.out.j) ex ho ?_ _ (by kernel_rfl)
  intro xs1 V2 D1 hxs1 hr2 hD1 hDN1
  have hR2 := Lib.hid hr2
  have hlx1 : xs1.length = ls1.length := by rw [← hxs1, List.length_map]
  have hV2 : W.heap.size ≤ V2.heap.size := Nat.le_trans hV1 hr2.size
  have hn2 : ∀ D, D ∈ D1 :: [D0] → W.heap.size ≤ D := fun D h => by rcases List.mem_cons.1 h with rfl | h; exact Nat.le_trans hV1 hDN1; exact hn1 D h
  have hdup2 : (D1 :: [D0]).Nodup := List.nodup_cons.2 ⟨hD1, hdup1⟩
  clear hr2 c1 c2 c3 l1 l2 l3 ex ho
  gi_wp2
  -- the end
  rw [roundsIn_succ]
  have c1 : V2.cell? ⟨b1, 0, none⟩ = some (.slice (some ⟨pb, po, none⟩) 2 pc) := hR2.out.node.box1.cell 0 rfl
  have c2 : V2.cell? ⟨b2, 0, none⟩ = some (.int .i64 4) := hR2.out.node.box2.cell 0 rfl
  have c3 : V2.cell? ⟨b3, 0, none⟩ = some (.int .i64 5) := hR2.out.node.box3.cell 0 rfl
  have l1 := hR2.out.node.box1.lt
  have l2 := hR2.out.node.box2.lt
  have l3 := hR2.out.node.box3.lt
  gi_wp2
  refine leaves_marks [D1, D0] V2 hR2.out.defs hdup2 (fun W' hW' => ⟨_, results_none rfl _ _ _, ⟨_, rfl⟩, xs0 ++ xs1, by rw [List.map_append, hxs0, hxs1], hW' (J (pre0 ++ (xs0 ++ xs1))) (fun V D o hv hd hk => hJ.putObj _ hv (hn2 D hd) hk rfl) ?_⟩)
  rw [← List.append_nil (pre0 ++ _), ← List.append_assoc pre0]
  exact hR2.out.j
set_option maxHeartbeats 8000000 in
theorem node_2_0 {g6 : Nat} {p : List Int} (hp : p.length = 2) (hlast : p.getD 1 0 = 2) {ls0 : List (List Int)} (hc0 : Node g6 (p ++ [3]) ls0) : Node g6 p (ls0) := by
  intro N M l b1 b2 b3 vp pre0 J W hN hJ hNW hM hY h0
  (try rw [List.length_append] at hM)
  obtain ⟨pa, pc, hvp⟩ := hN.own.shape
  rw [hp] at hvp
  subst hvp
  obtain ⟨pb, po, rfl, hpbl, hpl⟩ := hN.own.slice.get 1 (by omega)
  rw [show p[1] = 2 from by rw [← getD_in (d := 0)]; exact hlast] at hpl
  (try simp only [Nat.add_zero] at hpl)
  have HN := Lib.hid hN
  clear hN
  refine callsIn_of_wp_marks Tryz.func206 rfl trivial ?_ rfl
  simp only [Tryz.ntmps206, setsArgs, List.size_toArray, List.length_cons, List.length_nil, Nat.reduceAdd, Nat.reduceSub, Array.replicate_succ, Array.replicate_zero, List.push_toArray, List.append_toArray, List.nil_append, List.cons_append]
  have c1 : W.cell? ⟨b1, 0, none⟩ = some (.slice (some ⟨pb, po, none⟩) 2 pc) := HN.out.box1.cell 0 rfl
  have c2 : W.cell? ⟨b2, 0, none⟩ = some (.int .i64 4) := HN.out.box2.cell 0 rfl
  have c3 : W.cell? ⟨b3, 0, none⟩ = some (.int .i64 5) := HN.out.box3.cell 0 rfl
  have l1 := HN.out.box1.lt
  have l2 := HN.out.box2.lt
  have l3 := HN.out.box3.lt
  gi_wp2
  have e0 : Ext W (W.alloc (.cells #[.func (.yield l) #[] #[]] 306)) := Ext.alloc _ _
  have hR0 : Hid (RI g6 b1 b2 b3 W.heap.size (.slice (some ⟨pb, po, none⟩) 2 pc) p l J pre0 W.heap.size [] [] (W.alloc (.cells #[.func (.yield l) #[] #[]] 306))) :=
    ⟨by show J _ _; rw [List.append_nil]; exact hJ _ _ _ none h0 (grown_ext e0 none) (fun r e => by cases e), HN.out.keep (KP.ext (N := N) e0 HN.out.fin.1), BoxAt.new _ _ _, new_safe HN.out.fin e0 (Nat.le_refl _), e0.size, DefAt.nil _⟩
  have hV0 := e0.size
  have hn0 : ∀ D, D ∈ ([] : List Nat) → W.heap.size ≤ D := fun _ h => absurd h (by simp)
  have hdup0 : ([] : List Nat).Nodup := List.nodup_nil
  generalize (W.alloc (.cells #[.func (.yield l) #[] #[]] 306)) = V0 at *
  generalize W.heap.size = b4 at hR0 ⊢
  clear c1 c2 c3 l1 l2 l3 e0 HN
  refine wpIn_loop_rounds 2 ?_
  -- round 0
  rw [roundsIn_succ]
  have c1 : V0.cell? ⟨b1, 0, none⟩ = some (.slice (some ⟨pb, po, none⟩) 2 pc) := hR0.out.node.box1.cell 0 rfl
  have c2 : V0.cell? ⟨b2, 0, none⟩ = some (.int .i64 4) := hR0.out.node.box2.cell 0 rfl
  have c3 : V0.cell? ⟨b3, 0, none⟩ = some (.int .i64 5) := hR0.out.node.box3.cell 0 rfl
  have l1 := hR0.out.node.box1.lt
  have l2 := hR0.out.node.box2.lt
  have l3 := hR0.out.node.box3.lt
  gi_wp2
  refine reg9_any (d := 3) hp (by decide) c1 c2 c3 l1 l2 l3 hR0.out.node.own ?_ _ (by kernel_rfl)
  intro v5 v4 a6 c6 wo ex ho
  gi_wp2
  refine rng_any (q := p ++ [3]) hc0 hR0.out.node hR0.out.box4 hR0.out.bad4 hJ (by omega) (by omega) (by (try rw [List.length_append]); omega) hY hR0.out.defs (fun D h => Nat.le_trans hNW (hn0 D h)) (show J (pre0) _ from by rw [← List.append_nil (pre0)]; exact hR0.out.j) ex ho ?_ _ (by kernel_rfl)
  intro xs0 V1 D0 hxs0 hr1 hD0 hDN0
  have hR1 := Lib.hid hr1
  have hlx0 : xs0.length = ls0.length := by rw [← hxs0, List.length_map]
  have hV1 : W.heap.size ≤ V1.heap.size := Nat.le_trans hV0 hr1.size
  have hn1 : ∀ D, D ∈ D0 :: [] → W.heap.size ≤ D := fun D h => by rcases List.mem_cons.1 h with rfl | h; exact Nat.le_trans hV0 hDN0; exact hn0 D h
  have hdup1 : (D0 :: []).Nodup := List.nodup_cons.2 ⟨hD0, hdup0⟩
  clear hr1 c1 c2 c3 l1 l2 l3 ex ho
  gi_wp2
  -- the end
  rw [roundsIn_succ]
  have c1 : V1.cell? ⟨b1, 0, none⟩ = some (.slice (some ⟨pb, po, none⟩) 2 pc) := hR1.out.node.box1.cell 0 rfl
  have c2 : V1.cell? ⟨b2, 0, none⟩ = some (.int .i64 4) := hR1.out.node.box2.cell 0 rfl
  have c3 : V1.cell? ⟨b3, 0, none⟩ = some (.int .i64 5) := hR1.out.node.box3.cell 0 rfl
  have l1 := hR1.out.node.box1.lt
  have l2 := hR1.out.node.box2.lt
  have l3 := hR1.out.node.box3.lt
  gi_wp2
  refine leaves_marks [D0] V1 hR1.out.defs hdup1 (fun W' hW' => ⟨_, results_none rfl _ _ _, ⟨_, rfl⟩, xs0, by exact hxs0, hW' (J (pre0 ++ (xs0))) (fun V D o hv hd hk => hJ.putObj _ hv (hn1 D hd) hk rfl) ?_⟩)
  rw [← List.append_nil (pre0 ++ _)]
  exact hR1.out.j
set_option maxHeartbeats 8000000 in
theorem node_3_1 {g6 : Nat} {p : List Int} (hp : p.length = 3) (hlast : p.getD 2 0 = 2) {ls0 : List (List Int)} (hc0 : Node g6 (p ++ [3]) ls0) {ls1 : List (List Int)} (hc1 : Node g6 (p ++ [4]) ls1) : Node g6 p (ls0 ++ ls1) := by
  intro N M l b1 b2 b3 vp pre0 J W hN hJ hNW hM hY h0
  (try rw [List.length_append] at hM)
  obtain ⟨pa, pc, hvp⟩ := hN.own.shape
  rw [hp] at hvp
  subst hvp
  obtain ⟨pb, po, rfl, hpbl, hpl⟩ := hN.own.slice.get 2 (by omega)
  rw [show p[2] = 2 from by rw [← getD_in (d := 0)]; exact hlast] at hpl
  (try simp only [Nat.add_zero] at hpl)
  have HN := Lib.hid hN
  clear hN
  refine callsIn_of_wp_marks Tryz.func206 rfl trivial ?_ rfl
  simp only [Tryz.ntmps206, setsArgs, List.size_toArray, List.length_cons, List.length_nil, Nat.reduceAdd, Nat.reduceSub, Array.replicate_succ, Array.replicate_zero, List.push_toArray, List.append_toArray, List.nil_append, List.cons_append]
  have c1 : W.cell? ⟨b1, 0, none⟩ = some (.slice (some ⟨pb, po, none⟩) 3 pc) := HN.out.box1.cell 0 rfl
  have c2 : W.cell? ⟨b2, 0, none⟩ = some (.int .i64 4) := HN.out.box2.cell 0 rfl
  have c3 : W.cell? ⟨b3, 0, none⟩ = some (.int .i64 5) := HN.out.box3.cell 0 rfl
  have l1 := HN.out.box1.lt
  have l2 := HN.out.box2.lt
  have l3 := HN.out.box3.lt
  gi_wp2
  have e0 : Ext W (W.alloc (.cells #[.func (.yield l) #[] #[]] 306)) := Ext.alloc _ _
  have hR0 : Hid (RI g6 b1 b2 b3 W.heap.size (.slice (some ⟨pb, po, none⟩) 3 pc) p l J pre0 W.heap.size [] [] (W.alloc (.cells #[.func (.yield l) #[] #[]] 306))) :=
    ⟨by show J _ _; rw [List.append_nil]; exact hJ _ _ _ none h0 (grown_ext e0 none) (fun r e => by cases e), HN.out.keep (KP.ext (N := N) e0 HN.out.fin.1), BoxAt.new _ _ _, new_safe HN.out.fin e0 (Nat.le_refl _), e0.size, DefAt.nil _⟩
  have hV0 := e0.size
  have hn0 : ∀ D, D ∈ ([] : List Nat) → W.heap.size ≤ D := fun _ h => absurd h (by simp)
  have hdup0 : ([] : List Nat).Nodup := List.nodup_nil
  generalize (W.alloc (.cells #[.func (.yield l) #[] #[]] 306)) = V0 at *
  generalize W.heap.size = b4 at hR0 ⊢
  clear c1 c2 c3 l1 l2 l3 e0 HN
  refine wpIn_loop_rounds 3 ?_
  -- round 0
  rw [roundsIn_succ]
  have c1 : V0.cell? ⟨b1, 0, none⟩ = some (.slice (some ⟨pb, po, none⟩) 3 pc) := hR0.out.node.box1.cell 0 rfl
  have c2 : V0.cell? ⟨b2, 0, none⟩ = some (.int .i64 4) := hR0.out.node.box2.cell 0 rfl
  have c3 : V0.cell? ⟨b3, 0, none⟩ = some (.int .i64 5) := hR0.out.node.box3.cell 0 rfl
  have l1 := hR0.out.node.box1.lt
  have l2 := hR0.out.node.box2.lt
  have l3 := hR0.out.node.box3.lt
  gi_wp2
  refine reg9_any (d := 3) hp (by decide) c1 c2 c3 l1 l2 l3 hR0.out.node.own ?_ _ (by kernel_rfl)
  intro v5 v4 a6 c6 wo ex ho
  gi_wp2
  refine rng_any (q := p ++ [3]) hc0 hR0.out.node hR0.out.box4 hR0.out.bad4 hJ (by omega) (by omega) (by (try rw [List.length_append]); omega) hY hR0.out.defs (fun D h => Nat.le_trans hNW (hn0 D h)) (show J (pre0) _ from by rw [← List.append_nil (pre0)]; exact hR0.out.j) ex ho ?_ _ (by kernel_rfl)
  intro xs0 V1 D0 hxs0 hr1 hD0 hDN0
  have hR1 := Lib.hid hr1
  have hlx0 : xs0.length = ls0.length := by rw [← hxs0, List.length_map]
  have hV1 : W.heap.size ≤ V1.heap.size := Nat.le_trans hV0 hr1.size
  have hn1 : ∀ D, D ∈ D0 :: [] → W.heap.size ≤ D := fun D h => by rcases List.mem_cons.1 h with rfl | h; exact Nat.le_trans hV0 hDN0; exact hn0 D h
  have hdup1 : (D0 :: []).Nodup := List.nodup_cons.2 ⟨hD0, hdup0⟩
  clear hr1 c1 c2 c3 l1 l2 l3 ex ho
  gi_wp2
  -- round 1
  rw [roundsIn_succ]
  have c1 : V1.cell? ⟨b1, 0, none⟩ = some (.slice (some ⟨pb, po, none⟩) 3 pc) := hR1.out.node.box1.cell 0 rfl
  have c2 : V1.cell? ⟨b2, 0, none⟩ = some (.int .i64 4) := hR1.out.node.box2.cell 0 rfl
  have c3 : V1.cell? ⟨b3, 0, none⟩ = some (.int .i64 5) := hR1.out.node.box3.cell 0 rfl
  have l1 := hR1.out.node.box1.lt
  have l2 := hR1.out.node.box2.lt
  have l3 := hR1.out.node.box3.lt
  gi_wp2
  refine reg9_any (d := 4) hp (by decide) c1 c2 c3 l1 l2 l3 hR1.out.node.own ?_ _ (by kernel_rfl)
  intro v5 v4 a6 c6 wo ex ho
  gi_wp2
  refine rng_any (q := p ++ [4]) hc1 hR1.out.node hR1.out.box4 hR1.out.bad4 hJ (by omega) (by omega) (by (try rw [List.length_append]); omega) hY hR1.out.defs (fun D h => Nat.le_trans hNW (hn1 D h)) (show J (pre0 ++ xs0) _ from by rw [← List.append_nil (pre0 ++ xs0)]; exact hR1.out.j) ex ho ?_ _ (by kernel_rfl)
  intro xs1 V2 D1 hxs1 hr2 hD1 hDN1
  have hR2 := Lib.hid hr2
  have hlx1 : xs1.length = ls1.length := by rw [← hxs1, List.length_map]
  have hV2 : W.heap.size ≤ V2.heap.size := Nat.le_trans hV1 hr2.size
  have hn2 : ∀ D, D ∈ D1 :: [D0] → W.heap.size ≤ D := fun D h => by rcases List.mem_cons.1 h with rfl | h; exact Nat.le_trans hV1 hDN1; exact hn1 D h
  have hdup2 : (D1 :: [D0]).Nodup := List.nodup_cons.2 ⟨hD1, hdup1⟩
  clear hr2 c1 c2 c3 l1 l2 l3 ex ho
  gi_wp2
  -- the end
  rw [roundsIn_succ]
  have c1 : V2.cell? ⟨b1, 0, none⟩ = some (.slice (some ⟨pb, po, none⟩) 3 pc) := hR2.out.node.box1.cell 0 rfl
  have c2 : V2.cell? ⟨b2, 0, none⟩ = some (.int .i64 4) := hR2.out.node.box2.cell 0 rfl
  have c3 : V2.cell? ⟨b3, 0, none⟩ = some (.int .i64 5) := hR2.out.node.box3.cell 0 rfl
  have l1 := hR2.out.node.box1.lt
  have l2 := hR2.out.node.box2.lt
  have l3 := hR2.out.node.box3.lt
  gi_wp2
  refine leaves_marks [D1, D0] V2 hR2.out.defs hdup2 (fun W' hW' => ⟨_, results_none rfl _ _ _, ⟨_, rfl⟩, xs0 ++ xs1, by rw [List.map_append, hxs0, hxs1], hW' (J (pre0 ++ (xs0 ++ xs1))) (fun V D o hv hd hk => hJ.putObj _ hv (hn2 D hd) hk rfl) ?_⟩)
  rw [← List.append_nil (pre0 ++ _), ← List.append_assoc pre0]
  exact hR2.out.j
set_option maxHeartbeats 8000000 in
theorem node_3_0 {g6 : Nat} {p : List Int} (hp : p.length = 3) (hlast : p.getD 2 0 = 3) {ls0 : List (List Int)} (hc0 : Node g6 (p ++ [4]) ls0) : Node g6 p (ls0) := by
  intro N M l b1 b2 b3 vp pre0 J W hN hJ hNW hM hY h0
  (try rw [List.length_append] at hM)
  obtain ⟨pa, pc, hvp⟩ := hN.own.shape
  rw [hp] at hvp
  subst hvp
  obtain ⟨pb, po, rfl, hpbl, hpl⟩ := hN.own.slice.get 2 (by omega)
  rw [show p[2] = 3 from by rw [← getD_in (d := 0)]; exact hlast] at hpl
  (try simp only [Nat.add_zero] at hpl)
  have HN := Lib.hid hN
  clear hN
  refine callsIn_of_wp_marks Tryz.func206 rfl trivial ?_ rfl
  simp only [Tryz.ntmps206, setsArgs, List.size_toArray, List.length_cons, List.length_nil, Nat.reduceAdd, Nat.reduceSub, Array.replicate_succ, Array.replicate_zero, List.push_toArray, List.append_toArray, List.nil_append, List.cons_append]
  have c1 : W.cell? ⟨b1, 0, none⟩ = some (.slice (some ⟨pb, po, none⟩) 3 pc) := HN.out.box1.cell 0 rfl
  have c2 : W.cell? ⟨b2, 0, none⟩ = some (.int .i64 4) := HN.out.box2.cell 0 rfl
  have c3 : W.cell? ⟨b3, 0, none⟩ = some (.int .i64 5) := HN.out.box3.cell 0 rfl
  have l1 := HN.out.box1.lt
  have l2 := HN.out.box2.lt
  have l3 := HN.out.box3.lt
  gi_wp2
  have e0 : Ext W (W.alloc (.cells #[.func (.yield l) #[] #[]] 306)) := Ext.alloc _ _
  have hR0 : Hid (RI g6 b1 b2 b3 W.heap.size (.slice (some ⟨pb, po, none⟩) 3 pc) p l J pre0 W.heap.size [] [] (W.alloc (.cells #[.func (.yield l) #[] #[]] 306))) :=
    ⟨by show J _ _; rw [List.append_nil]; exact hJ _ _ _ none h0 (grown_ext e0 none) (fun r e => by cases e), HN.out.keep (KP.ext (N := N) e0 HN.out.fin.1), BoxAt.new _ _ _, new_safe HN.out.fin e0 (Nat.le_refl _), e0.size, DefAt.nil _⟩
  have hV0 := e0.size
  have hn0 : ∀ D, D ∈ ([] : List Nat) → W.heap.size ≤ D := fun _ h => absurd h (by simp)
  have hdup0 : ([] : List Nat).Nodup := List.nodup_nil
  generalize (W.alloc (.cells #[.func (.yield l) #[] #[]] 306)) = V0 at *
  generalize W.heap.size = b4 at hR0 ⊢
  clear c1 c2 c3 l1 l2 l3 e0 HN
  refine wpIn_loop_rounds 2 ?_
  -- round 0
  rw [roundsIn_succ]
  have c1 : V0.cell? ⟨b1, 0, none⟩ = some (.slice (some ⟨pb, po, none⟩) 3 pc) := hR0.out.node.box1.cell 0 rfl
  have c2 : V0.cell? ⟨b2, 0, none⟩ = some (.int .i64 4) := hR0.out.node.box2.cell 0 rfl
  have c3 : V0.cell? ⟨b3, 0, none⟩ = some (.int .i64 5) := hR0.out.node.box3.cell 0 rfl
  have l1 := hR0.out.node.box1.lt
  have l2 := hR0.out.node.box2.lt
  have l3 := hR0.out.node.box3.lt
  gi_wp2
  refine reg9_any (d := 4) hp (by decide) c1 c2 c3 l1 l2 l3 hR0.out.node.own ?_ _ (by kernel_rfl)
  intro v5 v4 a6 c6 wo ex ho
  gi_wp2
  refine rng_any (q := p ++ [4]) hc0 hR0.out.node hR0.out.box4 hR0.out.bad4 hJ (by omega) (by omega) (by (try rw [List.length_append]); omega) hY hR0.out.defs (fun D h => Nat.le_trans hNW (hn0 D h)) (show J (pre0) _ from by rw [← List.append_nil (pre0)]; exact hR0.out.j) ex ho ?_ _ (by kernel_rfl)
  intro xs0 V1 D0 hxs0 hr1 hD0 hDN0
  have hR1 := Lib.hid hr1
  have hlx0 : xs0.length = ls0.length := by rw [← hxs0, List.length_map]
  have hV1 : W.heap.size ≤ V1.heap.size := Nat.le_trans hV0 hr1.size
  have hn1 : ∀ D, D ∈ D0 :: [] → W.heap.size ≤ D := fun D h => by rcases List.mem_cons.1 h with rfl | h; exact Nat.le_trans hV0 hDN0; exact hn0 D h
  have hdup1 : (D0 :: []).Nodup := List.nodup_cons.2 ⟨hD0, hdup0⟩
  clear hr1 c1 c2 c3 l1 l2 l3 ex ho
  gi_wp2
  -- the end
  rw [roundsIn_succ]
  have c1 : V1.cell? ⟨b1, 0, none⟩ = some (.slice (some ⟨pb, po, none⟩) 3 pc) := hR1.out.node.box1.cell 0 rfl
  have c2 : V1.cell? ⟨b2, 0, none⟩ = some (.int .i64 4) := hR1.out.node.box2.cell 0 rfl
  have c3 : V1.cell? ⟨b3, 0, none⟩ = some (.int .i64 5) := hR1.out.node.box3.cell 0 rfl
  have l1 := hR1.out.node.box1.lt
  have l2 := hR1.out.node.box2.lt
  have l3 := hR1.out.node.box3.lt
  gi_wp2
  refine leaves_marks [D0] V1 hR1.out.defs hdup1 (fun W' hW' => ⟨_, results_none rfl _ _ _, ⟨_, rfl⟩, xs0, by exact hxs0, hW' (J (pre0 ++ (xs0))) (fun V D o hv hd hk => hJ.putObj _ hv (hn1 D hd) hk rfl) ?_⟩)
  rw [← List.append_nil (pre0 ++ _)]
  exact hR1.out.j
end Go.Proofs.YtjabgpejmnpamaaGreatDoor

namespace Go.Proofs.YtjabgpejmnpamaaGreatDoor
open Go.RowKit
theorem arrc_grown (b : Nat) : ∀ (vs : List Value) (o : Nat) (w : World), w.grownBy (w.setCells b o vs) (some b)
  | [], _, w => grown_refl w _
  | v :: r, o, w => by rw [World.setCells]; exact grown_trans (grown_set w b o v) (arrc_grown b r _ _)
structure Stored (w w' : World) (g : Nat) (cells : Array Value) (t : TypeId) : Prop where
  box : BoxAt w' g cells t
  grown : w.grownBy w' (some g)
  size : w'.heap.size = w.heap.size
  other : ∀ k, k ≠ g → w'.heap[k]? = w.heap[k]?
theorem Stored.bel {w w' w0 : World} {g B : Nat} {cells : Array Value} {t : TypeId} (h : Stored w w' g cells t) (hb : Below B w0 w) (hg : B ≤ g) : Below B w0 w' :=
  ⟨h.grown.os.trans hb.os, h.grown.tape.trans hb.tape, h.grown.output.trans hb.output, by have := h.size; have := hb.size; omega, fun k hk => (h.other k (by omega)).trans (hb.block k hk)⟩
theorem stored_all {w : World} {g : Nat} {cs cells : Array Value} {t : TypeId} (hb : BoxAt w g cs t) (hs : cs.size = cells.size) : Stored w (w.setCells g 0 cells.toList) g cells t := by
  refine ⟨?_, arrc_grown _ _ _ _, arrc_size _ _ _, fun k hk => arrc_other _ _ _ k hk⟩
  have := arrc_all hb cells.toList (by simpa using hs.symm)
  simpa using this
theorem run_store_box {P : Program} {w : World} {g : Nat} {ty t : TypeId} {cs cells : Array Value} (hb : BoxAt w g cs t) (hs : cs.size = cells.size) (hi : (P.info? ty).map (·.size) = some cells.size) (h1 : cells.all (·.oneCell') = true) :
    (Instr.storeAt ty (.pointer (some ⟨g, 0, none⟩)) (.agg cells)).run P w = .ok () (w.setCells g 0 cells.toList) :=
  run_storeAt_mid (P := P) w g 0 ty cells (fun j hj => ⟨by rw [Nat.zero_add]; obtain ⟨v, hv⟩ : ∃ v, cs[j]? = some v := ⟨_, Array.getElem?_eq_getElem (by rw [hs]; exact hj)⟩; rw [hb.cell j hv]; rfl, by rw [Nat.zero_add]; exact hb.free j⟩) hi h1
theorem wpList_store_box {P : Program} {ops : Array Oper} {rest : List Oper} {o : Oper} {a : Act} {w : World} {Q : Exit → Act → World → Prop} (ty : TypeId) (x y : Operand) (ho : o.op = .store ty x y)
    (hw : Region.wanted o (yielded ops a.tmps) = true) {g : Nat} {cs cells : Array Value} {t : TypeId} (hx : a.eval x = .pointer (some ⟨g, 0, none⟩)) (hy : a.eval y = .agg cells) (hb : BoxAt w g cs t) (hs : cs.size = cells.size) (hi : (P.info? ty).map (·.size) = some cells.size) (h1 : cells.all (·.oneCell') = true)
    (h : ∀ w', Stored w w' g cells t → wpList P ops Q rest (a.put o.dst undef) w') : wpList P ops Q (o :: rest) a w := by
  refine wpList_step fun K hK => ?_
  rw [if_pos hw]
  have hrun := run_store_box (P := P) hb hs hi h1
  unfold Oper.wp execOp
  simp only [ho, hx, hy, Sem.run_bind, Sem.run_pure, Result.andThen_ok, hrun]
  exact hK _ _ (h _ (stored_all hb hs))
theorem box_load {P : Program} {w : World} {g o : Nat} {ty t : TypeId} {cs : Array Value} {part : List Value} {d : TypeDesc} (h : BoxAt w g cs t) (hp : ∀ j v, part[j]? = some v → cs[o + j]? = some v) (hu : P.underlying ty = some d) (hd : d.isRow = true) (hi : (P.info? ty).map (·.size) = some part.length) :
    (Instr.loadAt ty (.pointer (some ⟨g, o, none⟩))).run P w = .ok (.agg part.toArray) w :=
  run_loadAt_mid w g o ty part d (fun j v hv => h.cell _ (hp j v hv)) hu hd hi
theorem box_result {P : Program} {w : World} {g : Nat} {ty t : TypeId} {cs : Array Value} {d : TypeDesc} (h : BoxAt w g cs t) (hu : P.underlying ty = some d) (hd : d.isRow = true) (hi : (P.info? ty).map (·.size) = some cs.size) :
    (loadVar ty ⟨g, 0, none⟩).run P w = .ok (.agg cs) w := by
  have := run_loadVar_mid (P := P) w g 0 ty cs.toList d (fun j v hv => by rw [Nat.zero_add]; exact h.cell j (by simpa using hv)) hu hd (by simpa using hi)
  simpa using this
end Go.Proofs.YtjabgpejmnpamaaGreatDoor

namespace Go.Proofs.YtjabgpejmnpamaaGreatDoor
open Go.RowKit Go.Shelf
set_option maxRecDepth 100000
attribute [local go_sem] Oper.semAt_some
theorem min2i {P : Program} (w : World) (ts : Array TypeId) (t : TypeId) (a b : Int) :
    (Builtin.min_ ts t #[.int .i64 a, .int .i64 b]).run P w = .ok (.int .i64 (min a b)) w := by
  have e : (if b < a then b else a) = min a b := by split <;> omega
  have : (Builtin.min_ ts t #[.int .i64 a, .int .i64 b]).run P w = .ok (.int .i64 (if b < a then b else a)) w := rfl
  rw [this, e]
def lists54 : List (List Int) := [[0, 1, 2, 3], [0, 1, 2, 4], [0, 1, 3, 4], [0, 2, 3, 4], [1, 2, 3, 4]]
theorem infoS : (Tryz.prog.info? 40).map (fun i => (i.zero, i.size, i.bytes)) = some (some (.slice none 0 0), 1, 24) := by kernel_rfl
theorem all_node {g6 : Nat} : Node g6 [] lists54 := by
  have l0123 : Node g6 [0, 1, 2, 3] [[0, 1, 2, 3]] := node_leaf rfl
  have l0124 : Node g6 [0, 1, 2, 4] [[0, 1, 2, 4]] := node_leaf rfl
  have l0134 : Node g6 [0, 1, 3, 4] [[0, 1, 3, 4]] := node_leaf rfl
  have l0234 : Node g6 [0, 2, 3, 4] [[0, 2, 3, 4]] := node_leaf rfl
  have l1234 : Node g6 [1, 2, 3, 4] [[1, 2, 3, 4]] := node_leaf rfl
  have n012 := node_3_1 (p := [0, 1, 2]) rfl rfl l0123 l0124
  have n013 := node_3_0 (p := [0, 1, 3]) rfl rfl l0134
  have n023 := node_3_0 (p := [0, 2, 3]) rfl rfl l0234
  have n123 := node_3_0 (p := [1, 2, 3]) rfl rfl l1234
  have n01 := node_2_1 (p := [0, 1]) rfl rfl n012 n013
  have n02 := node_2_0 (p := [0, 2]) rfl rfl n023
  have n12 := node_2_0 (p := [1, 2]) rfl rfl n123
  have n0 := node_1_1 (p := [0]) rfl rfl n01 n02
  have n1 := node_1_0 (p := [1]) rfl rfl n12
  exact node_0_1 (p := []) rfl n0 n1
def RowsI (w : World) (v : Value) (ls : List (List Int)) : Prop := ∃ vs : List Value, SliceAt id w v vs ∧ vs.length = ls.length ∧ ∀ i (h1 : i < vs.length) (h2 : i < ls.length), SliceAt encI w vs[i] ls[i]
theorem RowsI.shape {w : World} {v : Value} {ls : List (List Int)} (h : RowsI w v ls) : ∃ a c, v = .slice a ls.length c := by
  obtain ⟨vs, h1, h2, h3⟩ := h
  obtain ⟨a, c, rfl⟩ := h1.shape
  exact ⟨a, c, by rw [h2]⟩
theorem RowsI.at {w : World} {ad : Option Addr} {n cap : Nat} {ls : List (List Int)} (h : RowsI w (.slice ad n cap) ls) (k : Nat) (hk : k < ls.length) :
    ∃ b off v, ad = some ⟨b, off, none⟩ ∧ b < w.heap.size ∧ w.cell? ⟨b, off + k, none⟩ = some v ∧ SliceAt encI w v ls[k] := by
  obtain ⟨vs, h1, h2, h3⟩ := h
  have hk1 : k < vs.length := by rw [h2]; exact hk
  obtain ⟨b, off, rfl, hb, hc⟩ := h1.get k hk1
  exact ⟨b, off, vs[k], rfl, hb, hc, h3 k hk1 hk⟩
structure CI (w0 : World) (g4 g6 : Nat) (acc : List VL) (W : World) : Prop where
  row : ∃ rv, BoxAt W g6 #[.int .i64 5, rv] 117 ∧ OwnG id 40 W w0.heap.size rv (acc.map (·.1))
  all : ∀ x, x ∈ acc → OwnI W 0 x.1 x.2
  box4 : BoxAt W g4 #[.int .i64 0, .slice none 0 0] 117
  bel : Below w0.heap.size w0 W
theorem own_any {α : Type} {enc : α → Value} {e : TypeId} {b : Nat} {β : Type} {B : Nat} {v : Value} {l : List α} : OwnFrom B (fun (_ : β) W => OwnG enc e W b v l) := fun s X Y row hs hg hr => by
  refine OwnG.kept hs hg ?_
  cases hv : v.ownBlock with
  | none => exact .inr rfl
  | some g =>
    refine .inl (fun e => ?_)
    obtain ⟨_, o, ho, hc⟩ := hr g e.symm
    rcases hs.2 with ⟨h1, _⟩ | ⟨q, cap, cur, h1, _, h3, _⟩
    · rw [h1] at hv; simp [Value.ownBlock] at hv
    · rw [h1] at hv
      simp [Value.ownBlock] at hv
      subst hv
      rw [h3] at ho
      cases ho
      cases hc
theorem ci_own {w0 : World} {g4 g6 B : Nat} (hB : w0.heap.size ≤ B) : OwnFrom B (CI w0 g4 g6) := fun s X Y row hs hg hr => by
  obtain ⟨⟨rv, h1, h2⟩, h3, h4, h5⟩ := hs
  exact ⟨⟨rv, box_own (β := Unit) B () X Y row h1 hg hr, own_any (β := Unit) (B := B) () X Y row h2 hg hr⟩, fun x hx => own_any (β := Unit) (B := B) () X Y row (h3 x hx) hg hr, box_own (β := Unit) B () X Y row h4 hg hr, ownFrom_below (β := Unit) (Nat.le_refl _) hB () X Y row h5 hg hr⟩
theorem ssrows_apart {α β : Type} {enc : α → Value} {enc' : β → Value} {e e' : TypeId} {w : World} {b b' : Nat} {v v' : Value} {l : List α} {l' : List β} (h : OwnG enc e w b v l) (h' : OwnG enc' e' w b' v' l') (ne : e ≠ e') : v'.ownBlock ≠ v.ownBlock ∨ v'.ownBlock = none := by
  rcases h.2 with ⟨h1, _⟩ | ⟨q, cap, cur, h1, _, h3, _⟩
  · cases hv : v'.ownBlock with
    | none => exact .inr rfl
    | some g => exact .inl (by rw [h1]; simp [Value.ownBlock])
  · rcases h'.2 with ⟨k1, _⟩ | ⟨q', cap', cur', k1, _, k3, _⟩
    · exact .inr (by rw [k1]; rfl)
    · refine .inl (fun he => ?_)
      rw [h1, k1] at he
      simp [Value.ownBlock] at he
      subst he
      rw [h3] at k3
      cases k3
      exact ne rfl
theorem row_cells {α : Type} {enc : α → Value} {e : TypeId} {w : World} {b k : Nat} {v : Value} {l : List α} {o : Obj} (h : OwnG enc e w b v l) (hk : v.ownBlock = some k) (ho : w.heap[k]? = some o) : o.isCells = true := by
  rcases h.2 with ⟨h1, _⟩ | ⟨q, cap, cur, h1, _, h3, _⟩
  · rw [h1] at hk; simp [Value.ownBlock] at hk
  · rw [h1] at hk
    simp [Value.ownBlock] at hk
    subst hk
    rw [h3] at ho
    cases ho
    rfl
theorem ci_put {w0 W W1 w7 : World} {g4 g6 n : Nat} {acc : List VL} {x : VL} {rv v' : Value} (hall : ∀ x, x ∈ acc → OwnI W 0 x.1 x.2) (h4 : BoxAt W g4 #[.int .i64 0, .slice none 0 0] 117) (hbel : Below w0.heap.size w0 W)
    (h6 : BoxAt W g6 #[.int .i64 5, rv] 117) (hrow : OwnG id 40 W w0.heap.size rv (acc.map (·.1))) (hes : OwnI W 0 x.1 x.2) (hfin : Fin6 g6 W) (e : Ext W W1)
    (ho7 : OwnG id 40 w7 w0.heap.size v' (acc.map (·.1) ++ [x.1])) (hg7 : W1.grownBy w7 rv.ownBlock) (hat : v'.ownBlock = rv.ownBlock ∨ v'.ownBlock = some W1.heap.size) (hge : w0.heap.size ≤ g6) (h46 : g4 ≠ g6) :
    KP g6 0 W (w7.setCell ⟨g6, 1, none⟩ v') ∧ CI w0 g4 g6 (acc ++ [x]) (w7.setCell ⟨g6, 1, none⟩ v') := by
  have hr1 := hrow.ext e
  have ne6 : some g6 ≠ rv.ownBlock := fun h => hr1.not_box (h6.ext e) (by decide) h.symm
  have h67 := (h6.ext e).grown hg7 ne6
  have h68 := h67.set 1 v'
  have ne6' : v'.ownBlock ≠ some g6 := ho7.not_box h67 (by decide)
  have old : ∀ k, k < W.heap.size → k ≠ g6 → rv.ownBlock ≠ some k → (w7.setCell ⟨g6, 1, none⟩ v').heap[k]? = W.heap[k]? := fun k hk h1 h2 =>
    (Below.heap_setCell _ _ _ k h1).trans ((hg7.block k (Nat.lt_of_lt_of_le hk e.size) (fun h => h2 h.symm)).trans (e.block k hk))
  have ho6 : own6 g6 W = rv.ownBlock := by unfold own6; rw [h6.cell 1 (v := rv) rfl]
  have ho8 : own6 g6 (w7.setCell ⟨g6, 1, none⟩ v') = v'.ownBlock := by unfold own6; rw [h68.cell 1 (v := v') rfl]
  have hsz : W1.heap.size ≤ (w7.setCell ⟨g6, 1, none⟩ v').heap.size := by have := hg7.size; simpa using this
  have hsz0 := e.size
  have keep : ∀ y : VL, OwnI W 0 y.1 y.2 → OwnI (w7.setCell ⟨g6, 1, none⟩ v') 0 y.1 y.2 := fun y hy => by
    have h1 := hy.ext e
    have h2 := OwnG.kept h1 hg7 (ssrows_apart hr1 h1 (by decide))
    exact h2.off (h2.not_box h67 (by decide)) 1 v'
  refine ⟨⟨by omega, fun k cs t fr hk hb => ?_, fun k hk hb => ?_, fun hF => ⟨by have := hF.1; omega, fun k hk => ?_⟩, fun k o _ ho hc => ?_⟩, ⟨⟨v', h68, ?_⟩, ?_, ?_, ?_⟩⟩
  · rw [old k (Array.getElem?_eq_some_iff.1 hk).1 (fun h => hb (.inl h)) (fun h => hb (.inr (by rw [ho6]; exact h)))]; exact hk
  · rcases hb with h | h
    · exact .inl h
    · rw [ho8] at h
      rcases hat with h' | h'
      · exact .inr (by rw [ho6, ← h']; exact h)
      · rw [h'] at h; cases h; omega
  · rw [ho8] at hk
    have := (ho7.lt k hk).2
    simpa using this
  · have hk := (Array.getElem?_eq_some_iff.1 ho).1
    rw [old k hk (fun h => ?_) (fun h => ?_)]
    · exact ho
    · subst h
      rw [show W.heap[k]? = _ from h6] at ho
      cases ho; cases hc
    · rw [row_cells hrow h ho] at hc
      cases hc
  · rw [List.map_append]
    exact ho7.off ne6' 1 v'
  · intro y hy
    rw [List.mem_append] at hy
    rcases hy with hy | hy
    · exact keep y (hall y hy)
    · rw [List.mem_singleton] at hy
      subst hy
      exact keep y hes
  · exact ((h4.ext e).grown hg7 (fun h => hr1.not_box (h4.ext e) (by decide) h.symm)).set_off h46 1 v'
  · exact bel_set (Below.grown (Below.trans hbel (Below.mono e hbel.size)) hg7 (Nat.le_trans hbel.size e.size) (fun k hk => (hr1.lt k hk).1)) hge 1 v'
theorem ssrows_of {xs : List VL} {w : World} {b : Nat} {rv : Value} {ls : List (List Int)} (h : OwnG id 40 w b rv (xs.map (·.1))) (ha : ∀ x, x ∈ xs → OwnI w 0 x.1 x.2) (hs : xs.map (·.2) = ls) : RowsI w rv ls := by
  refine ⟨_, h.slice, by rw [← hs, List.length_map, List.length_map], fun i h1 h2 => ?_⟩
  subst hs
  rw [List.length_map] at h1
  rw [List.getElem_map, List.getElem_map]
  exact (ha _ (List.getElem_mem h1)).slice
def RowsW (w : World) (b : Nat) (rv : Value) (ls : List (List Int)) : Prop := ∃ xs : List VL, xs.map (·.2) = ls ∧ OwnG id 40 w b rv (xs.map (·.1)) ∧ ∀ x, x ∈ xs → OwnI w 0 x.1 x.2
theorem RowsW.rows {w : World} {b : Nat} {rv : Value} {ls : List (List Int)} (h : RowsW w b rv ls) : RowsI w rv ls := by
  obtain ⟨xs, h1, h2, h3⟩ := h
  exact ssrows_of h2 h3 h1
theorem RowsW.shape {w : World} {b : Nat} {rv : Value} {ls : List (List Int)} (h : RowsW w b rv ls) : ∃ a c, rv = .slice a ls.length c := h.rows.shape
theorem RowsW.lower {w : World} {b b' : Nat} {rv : Value} {ls : List (List Int)} (h : RowsW w b rv ls) (hb : b' ≤ b) : RowsW w b' rv ls := by
  obtain ⟨xs, h1, h2, h3⟩ := h
  exact ⟨xs, h1, h2.lower hb, h3⟩
theorem RowsW.grown {w w' : World} {b g : Nat} {rv : Value} {ls : List (List Int)} {cs : Array Value} {t : TypeId} (h : RowsW w b rv ls) (hg : w.grownBy w' (some g)) (hb : BoxAt w g cs t) (h1 : t ≠ 40) (h2 : t ≠ 3) : RowsW w' b rv ls := by
  obtain ⟨xs, k1, k2, k3⟩ := h
  exact ⟨xs, k1, k2.kept hg (.inl (k2.not_box hb h1)), fun x hx => (k3 x hx).kept hg (.inl ((k3 x hx).not_box hb h2))⟩
set_option maxHeartbeats 4000000 in
theorem complete_any (w : World) : Calls Tryz.prog 102 #[.int .i64 5, .int .i64 4] w fun e w' => ∃ rv, e = .returned (.tuple #[.agg #[.int .i64 5, rv], .int .i64 0]) ∧ RowsW w' w.heap.size rv lists54 ∧ Below w.heap.size w w' := by
  refine (callsIn_wide (n := 5)).1 ?_
  refine callsIn_of_wp_marks Tryz.func102 rfl trivial ?_ rfl
  simp only [Tryz.ntmps102, List.size_toArray, List.length_cons, List.length_nil, Nat.reduceAdd, Nat.reduceSub, Array.replicate_succ, Array.replicate_zero, List.push_toArray, List.append_toArray, List.nil_append, List.cons_append]
  have hmin := fun (w : World) (ts : Array TypeId) (t : TypeId) (a b : Int) => min2i (P := Tryz.prog) w ts t a b
  gi_wp2_with first | (refine ⟨trivial, ?_⟩; gi_at_call 153; refine (callsIn_wide.2 (dcount_any _)).mono ?_; rintro e w1 ⟨rfl, rfl⟩) | (refine ⟨trivial, ?_⟩; gi_at_call 154; refine (callsIn_wide.2 (sets_any _ _ _ _)).mono ?_; rintro e w2 ⟨rfl, rfl⟩)
  have B4 : BoxAt ((w.alloc (.cells #[.int .i64 0, .slice none 0 0] 117)).alloc (.cells #[.int .i64 5, .slice none 0 0] 117)) w.heap.size #[.int .i64 0, .slice none 0 0] 117 := (BoxAt.new _ _ _).ext (Ext.alloc _ _)
  have B6 : BoxAt ((w.alloc (.cells #[.int .i64 0, .slice none 0 0] 117)).alloc (.cells #[.int .i64 5, .slice none 0 0] 117)) (w.heap.size + 1) #[.int .i64 5, .slice none 0 0] 117 := by
    have := BoxAt.new (w.alloc (.cells #[.int .i64 0, .slice none 0 0] 117)) #[.int .i64 5, .slice none 0 0] 117
    rw [World.size_alloc] at this
    exact this
  have e1 : Ext w ((w.alloc (.cells #[.int .i64 0, .slice none 0 0] 117)).alloc (.cells #[.int .i64 5, .slice none 0 0] 117)) := (Ext.alloc _ _).trans (Ext.alloc _ _)
  generalize ((w.alloc (.cells #[.int .i64 0, .slice none 0 0] 117)).alloc (.cells #[.int .i64 5, .slice none 0 0] 117)) = W1 at *
  obtain ⟨g4, hg4⟩ : ∃ g, w.heap.size = g := ⟨_, rfl⟩
  obtain ⟨g6, hg6⟩ : ∃ g, g4 + 1 = g := ⟨_, rfl⟩
  rw [hg4] at B4 B6 ⊢
  rw [hg6] at B6 ⊢
  have hs1 := B6.lt
  have eU : Ext W1 (setsW W1 (.slice none 0 0)) := (Ext.alloc _ _).trans ((Ext.alloc _ _).trans (Ext.alloc _ _))
  have B1 : BoxAt (setsW W1 (.slice none 0 0)) W1.heap.size #[.slice none 0 0] 40 := ((BoxAt.new _ _ _).ext (Ext.alloc _ _)).ext (Ext.alloc _ _)
  have B3 : BoxAt (setsW W1 (.slice none 0 0)) (W1.heap.size + 1) #[.int .i64 5] 3 := by
    have := BoxAt.new (W1.alloc (.cells #[.slice none 0 0] 40)) #[.int .i64 5] 3
    rw [World.size_alloc] at this
    exact this.ext (Ext.alloc _ _)
  have B2 : BoxAt (setsW W1 (.slice none 0 0)) (W1.heap.size + 1 + 1) #[.int .i64 4] 3 := by
    have := BoxAt.new ((W1.alloc (.cells #[.slice none 0 0] 40)).alloc (.cells #[.int .i64 5] 3)) #[.int .i64 4] 3
    rw [World.size_alloc, World.size_alloc] at this
    exact this
  have B6U := B6.ext eU
  have ho6 : own6 g6 (setsW W1 (.slice none 0 0)) = none := by
    unfold own6
    rw [B6U.cell 1 (v := .slice none 0 0) rfl]
    rfl
  have hbad : ∀ k, g6 < k → ¬ Bad g6 (setsW W1 (.slice none 0 0)) k := fun k hk hb => by
    rcases hb with h | h
    · omega
    · rw [ho6] at h; cases h
  have hNU : NodeAt g6 (setsW W1 (.slice none 0 0)) W1.heap.size (W1.heap.size + 1 + 1) (W1.heap.size + 1) (.slice none 0 0) [] :=
    ⟨⟨B6U.lt, fun k hk => by rw [ho6] at hk; cases hk⟩, B1, B2, B3, OwnG.nil, hbad _ (by omega), hbad _ (by omega), hbad _ (by omega), fun g hg => by cases hg⟩
  have hseq := fun k => child_seq all_node hNU k
  have hgU : g6 < (setsW W1 (.slice none 0 0)).heap.size := B6U.lt
  have hwU : w.heap.size ≤ (setsW W1 (.slice none 0 0)).heap.size := by omega
  have hI0 : CI w g4 g6 [] (setsW W1 (.slice none 0 0)) := ⟨⟨_, B6U, OwnG.nil⟩, fun x hx => absurd hx (by simp), B4.ext eU, e1.trans eU⟩
  have heq : setsV W1 = #[.pointer (some ⟨W1.heap.size, 0, none⟩), .pointer (some ⟨W1.heap.size + 1 + 1, 0, none⟩), .pointer (some ⟨W1.heap.size + 1, 0, none⟩)] := rfl
  rw [heq]
  have HG4 := Lib.hid hg4
  have HG6 := Lib.hid hg6
  clear B1 B2 B3 hNU heq eU B6U B4 B6 ho6 hbad e1 hg4 hg6
  generalize setsW W1 (.slice none 0 0) = U at *
  refine wpIn_rangeFunc_ownE rfl (by decide) (gf := 206) rfl trivial (enters_of Tryz.func206 (by kernel_rfl) rfl) (hseq (5 - 1)) KP.trans (fun W o o' hk hcl => KP.put o' (by omega) (by omega) hk hcl) (Below.refl _ _) (fun _ => rfl)
    (fun x => OwnFrom.and own_ownFrom (fin_own hgU)) (CI w g4 g6) (ci_own hwU) hI0
    (fun x => { tmps := #[.int .i64 5, .int .i64 4, undef, undef,
          .pointer (some ⟨g4, 0, none⟩), .int .i64 0,
          .pointer (some ⟨g6, 0, none⟩), x.1, .int .i64 5, .bool false,
          .bool false, .int .i64 5, .bool false, .bool false, .bool false,
          .int .i64 4, .bool false, .bool false, .bool false, .int .i64 4,
          .int .i64 5, .bool false, .bool false, undef, .int .i64 5,
          .int .i64 4, .int .i64 5, .int .i64 4, .int .i64 1,
          .int .i64 (min 4 1), .int .i64 5, .bool false, undef, .int .i64 5,
          .agg #[.int .i64 5, .slice none 0 0], .int .i64 5, .int .i64 4,
          .func (.func 206) #[] #[.pointer (some ⟨W1.heap.size, 0, none⟩), .pointer (some ⟨W1.heap.size + 1 + 1, 0, none⟩), .pointer (some ⟨W1.heap.size + 1, 0, none⟩)],
          x.1, undef, undef, undef, undef, undef, undef, undef], defers := [] }) ?assign ?body ?done
  case assign =>
    intro l' x W K hK
    gi_wp2
    exact hK
  case body =>
    rintro l' acc ⟨xv, xl⟩ W hlen ⟨⟨rv, h6, hrow⟩, hall, h4, hbel⟩ ⟨hes, hfin⟩
    have hes : OwnI W 0 xv xl := hes
    obtain ⟨xa, xc, rfl⟩ := hes.shape
    obtain ⟨m, hm⟩ : ∃ m, xl.length = m := ⟨_, rfl⟩
    rw [hm] at hes ⊢
    obtain ⟨j0, hj, hj0, hj1, hj2⟩ := info_parts infoS
    have c6 : W.cell? ⟨g6, 1, none⟩ = some rv := h6.cell 1 rfl
    have l6 := h6.lt
    obtain ⟨ra, rc, rfl⟩ := hrow.shape
    obtain ⟨n, hn⟩ : ∃ n, (acc.map (·.1)).length = n := ⟨_, rfl⟩
    rw [hn] at c6 h6 hrow
    have hN : n ≤ 100 := by rw [List.length_map] at hn; have : lists54.length = 5 := rfl; omega
    have H6 := Lib.hid h6
    have HR := Lib.hid hrow
    have HN := Lib.hid hn
    have hb7 : BoxAt (W.alloc (.cells #[.slice xa m xc] 40)) W.heap.size #[.slice xa m xc] 40 := BoxAt.new _ _ _
    have HB7 := Lib.hid hb7
    have HR3 : Hid ((W.alloc (.cells #[.slice xa m xc] 40)).ownsRow w.heap.size 40 1 (.slice ra n rc) n ((acc.map (·.1)).map id)) := by
      have := HR.out.ext (Ext.alloc W (.cells #[.slice xa m xc] 40))
      unfold OwnG at this
      rw [HN.out] at this
      exact this
    have HWB := Lib.hid hbel
    clear h6 hrow hn hb7
    gi_wp2_with (gi_at_builtin; refine Classical.byContradiction (fun hNN => ?_))
    refine hNN ?_
    clear hNN
    refine wpListIn_append_own_at _ rfl _ _ _ rfl w.heap.size 40 j0 (.slice none 0 0) 1 24 Tryz.underlying115 hj hj0 hj1 hj2 rfl (by decide) (.slice ra n rc) n ((acc.map (·.1)).map id) rfl HR3.out _ 1 1 [.slice xa m xc] rfl rfl ?_ ?_ ?_ ?_ ?_ ?_
    · intro j u hj'
      match j, hj' with
      | 0, hj' => simp at hj'; subst hj'; exact HB7.out.cell 0 rfl
    · intro u hu; rw [List.mem_singleton] at hu; subst hu; rfl
    · unfold maxLen; omega
    · omega
    · have := HWB.out.size; simp; omega
    intro v' w7 ho7 hg7 hnil hat
    have h67 := (H6.out.ext (Ext.alloc W (.cells #[.slice xa m xc] 40))).grown hg7 (fun h => (HR.out.ext (Ext.alloc W (.cells #[.slice xa m xc] 40))).not_box (H6.out.ext (Ext.alloc _ _)) (by decide) h.symm)
    have c67 : w7.cell? ⟨g6, 1, none⟩ = some (.slice ra n rc) := h67.cell 1 rfl
    have f67 := h67.free 1
    have l67 := h67.lt
    obtain ⟨a7, c7, rfl⟩ := own_shape ho7
    have hO7 : OwnG id 40 w7 w.heap.size (.slice a7 (n + 1) c7) (acc.map (·.1) ++ [.slice xa m xc]) := OwnG.snoc (by rw [HN.out]; exact ho7)
    have HP := Lib.hid (ci_put (w0 := w) (g4 := g4) (x := (.slice xa m xc, xl)) (n := n) hall h4 hbel H6.out HR.out hes hfin (Ext.alloc _ _) hO7 hg7 hat (by have := HG4.out; have := HG6.out; omega) (by have := HG6.out; omega))
    clear ho7 hO7 hat hg7 hnil HR3 h67
    gi_wp2
    have hp := HP.out
    exact ⟨⟨hp.1.size, fun k o hk ho hc => hp.1.nonc k o (Nat.zero_le _) ho hc⟩, hp.1.more (Nat.zero_le _), hp.2⟩
  case done =>
    rintro D xs W hD hS ⟨⟨rv, h6, hrow⟩, hall, h4, hbel⟩ hDW
    obtain ⟨ra, rc, rfl⟩ := hrow.shape
    obtain ⟨n, hn⟩ : ∃ n, (xs.map (·.1)).length = n := ⟨_, rfl⟩
    rw [hn] at h6
    have c60 : W.cell? ⟨g6, 0, none⟩ = some (.int .i64 5) := h6.cell 0 rfl
    have c61 : W.cell? ⟨g6, 1, none⟩ = some (.slice ra n rc) := h6.cell 1 rfl
    have c40 : W.cell? ⟨g4, 0, none⟩ = some (.int .i64 0) := h4.cell 0 rfl
    have c41 : W.cell? ⟨g4, 1, none⟩ = some (.slice none 0 0) := h4.cell 1 rfl
    have f40 := h4.free 0
    have f41 := h4.free 1
    have l6 := h6.lt
    have l4 := h4.lt
    gi_wp2
    have e4 : g4 ≠ g6 := by have := HG6.out; omega
    have hwg : w.heap.size ≤ g4 := by have := HG4.out; omega
    have hr4 : (Value.slice ra n rc).ownBlock ≠ some g4 := by
      have := hrow.not_box h4 (by decide)
      rw [hn] at this
      exact this
    have b8 := (h4.set 0 (.int .i64 5)).set 1 (.slice ra n rc)
    have r8 := (hrow.off (q := g4) (by rw [hn]; exact hr4) 0 (.int .i64 5)).off (q := g4) (by rw [hn]; exact hr4) 1 (.slice ra n rc)
    have a8 : ∀ x, x ∈ xs → OwnI ((W.setCell ⟨g4, 0, none⟩ (.int .i64 5)).setCell ⟨g4, 1, none⟩ (.slice ra n rc)) 0 x.1 x.2 := fun x hx =>
      ((hall x hx).off ((hall x hx).not_box h4 (by decide)) 0 _).off ((hall x hx).not_box h4 (by decide)) 1 _
    have z8 := bel_set (bel_set hbel hwg 0 (.int .i64 5)) hwg 1 (.slice ra n rc)
    have hDg : D ≠ g4 := fun h => by
      subst h
      rw [show W.heap[D]? = _ from h4] at hDW
      cases hDW
    have d8 : ((W.setCell ⟨g4, 0, none⟩ (.int .i64 5)).setCell ⟨g4, 1, none⟩ (.slice ra n rc)).heap[D]? = some (.deferred (some [])) := (Below.heap_setCell _ _ _ D hDg).trans ((Below.heap_setCell _ _ _ D hDg).trans hDW)
    generalize ((W.setCell ⟨g4, 0, none⟩ (.int .i64 5)).setCell ⟨g4, 1, none⟩ (.slice ra n rc)) = W8 at *
    have hO : OwnFrom U.heap.size (fun (_ : Unit) V => BoxAt V g4 ((#[.int .i64 0, .slice none 0 0].setIfInBounds 0 (.int .i64 5)).setIfInBounds 1 (.slice ra n rc)) 117 ∧ OwnG id 40 V w.heap.size (.slice ra (xs.map (·.1)).length rc) (xs.map (·.1)) ∧ (∀ x, x ∈ xs → OwnI V 0 x.1 x.2) ∧ Below w.heap.size w V) := fun s X Y row hs hg hr =>
      ⟨box_own (β := Unit) U.heap.size () X Y row hs.1 hg hr, own_any (β := Unit) (B := U.heap.size) () X Y row hs.2.1 hg hr, fun x hx => own_any (β := Unit) (B := U.heap.size) () X Y row (hs.2.2.1 x hx) hg hr, ownFrom_below (β := Unit) (Nat.le_refl _) hwU () X Y row hs.2.2.2 hg hr⟩
    refine leaves_marks [D] _ (fun E hE => by rw [List.mem_singleton] at hE; rw [hE]; exact d8) (List.nodup_cons.2 ⟨by simp, List.nodup_nil⟩) (fun W' hW' => ?_)
    obtain ⟨k1, k2, k3, k4⟩ := hW' (fun V => BoxAt V g4 ((#[.int .i64 0, .slice none 0 0].setIfInBounds 0 (.int .i64 5)).setIfInBounds 1 (.slice ra n rc)) 117 ∧ OwnG id 40 V w.heap.size (.slice ra (xs.map (·.1)).length rc) (xs.map (·.1)) ∧ (∀ x, x ∈ xs → OwnI V 0 x.1 x.2) ∧ Below w.heap.size w V)
      (fun V E o hv hE hk => hO.putObj (s := ()) _ hv (by rw [List.mem_singleton] at hE; omega) hk rfl) ⟨b8, r8, a8, z8⟩
    exact ⟨_, results_cell_tmpA rfl _ _ rfl (box_result k1 Tryz.underlying117 rfl (by kernel_rfl)), .slice ra n rc, rfl, ⟨xs, hS, by rw [hn] at k2; exact k2, k3⟩, k4⟩
end Go.Proofs.YtjabgpejmnpamaaGreatDoor

namespace Go.Proofs.YtjabgpejmnpamaaGreatDoor
open Go.RowKit
set_option maxRecDepth 100000
set_option maxHeartbeats 4000000 in
theorem choose54_any (w : World) : Calls Tryz.prog 51 #[.int .i64 5, .int .i64 4] w fun e w' => ∃ rv, e = .returned (.tuple #[.agg #[.int .i64 5, rv], .int .i64 0]) ∧ RowsW w' w.heap.size rv lists54 ∧ Below w.heap.size w w' := by
  go_enter Tryz.func51, Tryz.ntmps51
  go_wp2
  have K0 : BoxAt ((w.alloc (.cells #[.int .i64 0, .slice none 0 0] 117)).alloc (.cells #[.int .i64 13, .int .i64 3, .func (.func 100) #[] #[], .int .i64 16, .int .i64 4, .func (.func 101) #[] #[]] 199)) (w.heap.size + 1) #[.int .i64 13, .int .i64 3, .func (.func 100) #[] #[], .int .i64 16, .int .i64 4, .func (.func 101) #[] #[]] 199 := by
    have := BoxAt.new (w.alloc (.cells #[.int .i64 0, .slice none 0 0] 117)) #[.int .i64 13, .int .i64 3, .func (.func 100) #[] #[], .int .i64 16, .int .i64 4, .func (.func 101) #[] #[]] 199
    rw [World.size_alloc] at this
    exact this
  have B0 : BoxAt ((w.alloc (.cells #[.int .i64 0, .slice none 0 0] 117)).alloc (.cells #[.int .i64 13, .int .i64 3, .func (.func 100) #[] #[], .int .i64 16, .int .i64 4, .func (.func 101) #[] #[]] 199)) w.heap.size #[.int .i64 0, .slice none 0 0] 117 := (BoxAt.new _ _ _).ext (Ext.alloc _ _)
  have e0 : Ext w ((w.alloc (.cells #[.int .i64 0, .slice none 0 0] 117)).alloc (.cells #[.int .i64 13, .int .i64 3, .func (.func 100) #[] #[], .int .i64 16, .int .i64 4, .func (.func 101) #[] #[]] 199)) := (Ext.alloc _ _).trans (Ext.alloc _ _)
  generalize ((w.alloc (.cells #[.int .i64 0, .slice none 0 0] 117)).alloc (.cells #[.int .i64 13, .int .i64 3, .func (.func 100) #[] #[], .int .i64 16, .int .i64 4, .func (.func 101) #[] #[]] 199)) = V0 at *
  obtain ⟨g0, hg0⟩ : ∃ g, w.heap.size = g := ⟨_, rfl⟩
  obtain ⟨g1, hg1⟩ : ∃ g, g0 + 1 = g := ⟨_, rfl⟩
  rw [hg0] at B0 K0 ⊢
  rw [hg1] at K0 ⊢
  have HG0 := Lib.hid hg0
  have HB0 := Lib.hid B0
  have HK0 := Lib.hid K0
  have HE0 := Lib.hid e0
  clear hg0 hg1 B0 K0 e0
  refine wp_loop_rounds 3 ?_
  rw [rounds_succ]
  have c0 : V0.cell? ⟨g1, 0, none⟩ = some (.int .i64 13) := HK0.out.cell 0 rfl
  have c1 : V0.cell? ⟨g1, 1, none⟩ = some (.int .i64 3) := HK0.out.cell 1 rfl
  have c2 : V0.cell? ⟨g1, 2, none⟩ = some (.func (.func 100) #[] #[]) := HK0.out.cell 2 rfl
  have l1 := HK0.out.lt
  go_wp2_with (refine wpList_store_box 199 _ _ rfl (by rfl) rfl rfl (BoxAt.new V0 #[.int .i64 0, .int .i64 0, .nilFunc] 199) rfl (by kernel_rfl) (by simp [Value.oneCell']) ?_; intro V1 hS1; have x0 : V1.cell? ⟨V0.heap.size, 0, none⟩ = some (.int .i64 13) := hS1.box.cell 0 rfl; have x1 := hS1.box.lt)
  have e1 : Ext V0 V1 := hS1.bel (Ext.alloc _ _) (Nat.le_refl _)
  have K1 := HK0.out.ext e1
  have HS1 := Lib.hid hS1
  clear x0 x1 c0 c1 c2 l1
  rw [rounds_succ]
  have c0 : V1.cell? ⟨g1, 3, none⟩ = some (.int .i64 16) := K1.cell 3 rfl
  have c1 : V1.cell? ⟨g1, 4, none⟩ = some (.int .i64 4) := K1.cell 4 rfl
  have c2 : V1.cell? ⟨g1, 5, none⟩ = some (.func (.func 101) #[] #[]) := K1.cell 5 rfl
  have l1 := K1.lt
  have HK1 := Lib.hid K1
  have HE1 := Lib.hid e1
  clear K1 e1 hS1
  go_wp2_with (refine wpList_store_box 199 _ _ rfl (by rfl) rfl rfl (BoxAt.new V1 #[.int .i64 0, .int .i64 0, .nilFunc] 199) rfl (by kernel_rfl) (by simp [Value.oneCell']) ?_; intro V2 hS2; have x0 : V2.cell? ⟨V1.heap.size, 0, none⟩ = some (.int .i64 16) := hS2.box.cell 0 rfl; have x1 := hS2.box.lt)
  have e2 : Ext V1 V2 := hS2.bel (Ext.alloc _ _) (Nat.le_refl _)
  have HE2 := Lib.hid e2
  clear x0 x1 c0 c1 c2 l1 e2 hS2
  rw [rounds_succ]
  go_wp2_with first | (go_at_call 102; refine (complete_any _).mono ?_; rintro e V3 ⟨rv, rfl, hR3, hb3⟩; obtain ⟨ra, rc, rfl⟩ := hR3.shape) | (refine wpList_store_box 117 _ _ rfl (by rfl) rfl rfl (HB0.out.ext (HE1.out.trans (HE2.out.trans hb3))) rfl (by kernel_rfl) (by simp [Value.oneCell']) ?_; intro V4 hS4)
  have e3 : Ext w V3 := HE0.out.trans (HE1.out.trans (HE2.out.trans hb3))
  have b3 := HB0.out.ext (HE1.out.trans (HE2.out.trans hb3))
  have hz : w.heap.size ≤ V2.heap.size := Nat.le_trans HE0.out.size (Nat.le_trans HE1.out.size HE2.out.size)
  exact bodyPost_ret (results_cell_tmpA rfl _ _ rfl (box_result hS4.box Tryz.underlying117 rfl (by kernel_rfl))) rfl ⟨_, rfl, (hR3.grown hS4.grown b3 (by decide) (by decide)).lower hz, hS4.bel e3 (by have := HG0.out; omega)⟩
end Go.Proofs.YtjabgpejmnpamaaGreatDoor

namespace Go.Proofs.YtjabgpejmnpamaaGreatDoor
open Go.RowKit
set_option maxRecDepth 100000
def el (k i : Nat) : Int := (lists54.getD k []).getD i 0
theorem el_range : ∀ k, k < 5 → ∀ i, i < 4 → 0 ≤ el k i ∧ el k i < 5 := by decide
theorem el_up : ∀ k, k < 5 → ∀ i, i < 3 → el k i < el k (i + 1) := by decide
theorem el_len : ∀ k (h : k < lists54.length), (lists54[k]).length = 4 := by decide
structure Rows54 (w : World) (ra : Nat) (ro rc : Nat) (q : Nat → Nat × Nat × Nat) : Prop where
  lt : ra < w.heap.size
  cap : 5 ≤ rc
  row : ∀ k, k < 5 → w.cell? ⟨ra, ro + k, none⟩ = some (.slice (some ⟨(q k).1, (q k).2.1, none⟩) 4 (q k).2.2)
  blk : ∀ k, k < 5 → (q k).1 < w.heap.size
  cl : ∀ k, k < 5 → 4 ≤ (q k).2.2
  cell : ∀ k, k < 5 → ∀ i, i < 4 → w.cell? ⟨(q k).1, (q k).2.1 + i, none⟩ = some (.int .i64 (el k i))
theorem Rows54.ext {w w' : World} {ra ro rc : Nat} {q : Nat → Nat × Nat × Nat} (h : Rows54 w ra ro rc q) (e : Ext w w') : Rows54 w' ra ro rc q :=
  ⟨Nat.lt_of_lt_of_le h.lt e.size, h.cap, fun k hk => (Below.cell e (p := ⟨ra, ro + k, none⟩) h.lt).trans (h.row k hk), fun k hk => Nat.lt_of_lt_of_le (h.blk k hk) e.size, h.cl, fun k hk i hi => (Below.cell e (p := ⟨(q k).1, (q k).2.1 + i, none⟩) (h.blk k hk)).trans (h.cell k hk i hi)⟩
theorem slice_cap {α : Type} {enc : α → Value} {w : World} {a : Option Addr} {n c : Nat} {l : List α} (h : SliceAt enc w (.slice a n c) l) : n ≤ c := by
  obtain ⟨ad, cap, he, hc, _⟩ := h
  injection he with h1 h2 h3
  omega
theorem rows54_of {w : World} {rv : Value} (h : RowsI w rv lists54) : ∃ ra ro rc q, rv = .slice (some ⟨ra, ro, none⟩) 5 rc ∧ Rows54 w ra ro rc q := by
  obtain ⟨a, c, rfl⟩ := h.shape
  have h5 : lists54.length = 5 := rfl
  rw [h5] at h ⊢
  obtain ⟨b, off, v0, rfl, hb, _, _⟩ := h.at 0 (by decide)
  have hall : ∀ k : Nat, ∃ z : Nat × Nat × Nat, k < 5 → w.cell? ⟨b, off + k, none⟩ = some (.slice (some ⟨z.1, z.2.1, none⟩) 4 z.2.2) ∧ z.1 < w.heap.size ∧ 4 ≤ z.2.2 ∧ ∀ i, i < 4 → w.cell? ⟨z.1, z.2.1 + i, none⟩ = some (.int .i64 (el k i)) := by
    intro k
    by_cases hk : k < 5
    · obtain ⟨b2, off2, v, he, hb2, hc, hs⟩ := h.at k hk
      injection he with he
      injection he with he1 he2
      subst he1 he2
      have hl := el_len k hk
      obtain ⟨a2, c2, rfl⟩ := hs.shape
      obtain ⟨b3, off3, rfl, hb3, hc3⟩ := hs.get 0 (by omega)
      have hcap := slice_cap hs
      rw [hl] at hc hcap
      refine ⟨(b3, off3, c2), fun _ => ⟨hc, hb3, hcap, fun i hi => ?_⟩⟩
      obtain ⟨b4, off4, he, hb4, hc4⟩ := hs.get i (by omega)
      injection he with he
      injection he with he1 he2
      subst he1 he2
      rw [hc4]
      unfold el
      rw [getD_in (show k < lists54.length from hk), getD_in (by omega)]
      rfl
    · exact ⟨(0, 0, 0), fun h => absurd h hk⟩
  obtain ⟨q, hq⟩ := Classical.axiomOfChoice hall
  have hcap : 5 ≤ c := by
    obtain ⟨vs, h1, h2, _⟩ := h
    exact slice_cap h1
  exact ⟨b, off, c, q, rfl, hb, hcap, fun k hk => (hq k hk).1, fun k hk => (hq k hk).2.1, fun k hk => (hq k hk).2.2.1, fun k hk => (hq k hk).2.2.2⟩
set_option maxHeartbeats 4000000 in
theorem formed_any (ra ro rc : Nat) (q : Nat → Nat × Nat × Nat) (w : World) (h : Rows54 w ra ro rc q) :
    Calls Tryz.prog 232 #[.agg #[.int .i64 5, .slice (some ⟨ra, ro, none⟩) 5 rc]] w fun e w' => e = .returned (.bool true) ∧ Ext w w' := by
  have h0 := h.row 0 (by decide)
  rw [Nat.add_zero] at h0
  have lra := h.lt
  have HR := Lib.hid h
  clear h
  go_enter Tryz.func232, Tryz.ntmps232
  go_wp2
  have hz : w.heap.size < (w.alloc (.cells #[.int .i64 5, .slice (some ⟨ra, ro, none⟩) 5 rc] 117)).heap.size := by simp
  generalize hW : w.alloc (.cells #[.int .i64 5, .slice (some ⟨ra, ro, none⟩) 5 rc] 117) = W at *
  have c0 : W.cell? ⟨w.heap.size, 0, none⟩ = some (.int .i64 5) := by rw [← hW]; simp
  have c1 : W.cell? ⟨w.heap.size, 1, none⟩ = some (.slice (some ⟨ra, ro, none⟩) 5 rc) := by rw [← hW]; simp
  have hxW : Ext w W := by rw [← hW]; exact Ext.alloc _ _
  have hbF : ∀ o, W.frozen? ⟨w.heap.size, o, none⟩ = false := fun o => by rw [← hW]; simp
  have HBF := Lib.hid hbF
  clear hW hbF
  have HW := Lib.hid (HR.out.ext hxW)
  have HXW := Lib.hid hxW
  clear h0 HR hxW lra
  go_loopw [38] (fun it wr => ∃ k : Nat, k ≤ 5 ∧ it = .int .i64 k ∧ Ext W wr) (fun it _ => 5 - (intOf it).toNat)
  case atStart => exact ⟨0, by decide, rfl, Ext.refl _⟩
  case round =>
    obtain ⟨k, hk, rfl, hX⟩ := hrel
    have HRr := HW.out.ext hX
    have r0 := HRr.row 0 (by decide)
    rw [Nat.add_zero] at r0
    have d0 := (Below.cell hX (p := ⟨w.heap.size, 0, none⟩) hz).trans c0
    have d1 := (Below.cell hX (p := ⟨w.heap.size, 1, none⟩) hz).trans c1
    have hz2 := Nat.lt_of_lt_of_le hz hX.size
    have lra := HRr.lt
    by_cases hlt : k < 5
    · have hkI : (k : Int) < 5 := by omega
      have rk := HRr.row k hlt
      have lk := HRr.blk k hlt
      have hcap := HRr.cap
      generalize hq : q k = z at rk lk
      obtain ⟨kb, ko, kc⟩ := z
      have HC : Hid (∀ i, i < 4 → wr.cell? ⟨kb, ko + i, none⟩ = some (.int .i64 (el k i))) := fun i hi => by have := HRr.cell k hlt i hi; rw [hq] at this; exact this
      have hkc : 4 ≤ kc := by have := HRr.cl k hlt; rw [hq] at this; exact this
      have HX := Lib.hid hX
      simp only at rk lk
      clear hq HRr hX
      generalize q 0 = z0 at r0
      obtain ⟨b0, o0, q0⟩ := z0
      simp only at r0
      go_wp2
      generalize wr = wo at *
      go_loopw [52] (fun it wr => ∃ i : Nat, i ≤ 4 ∧ it = .int .i64 i ∧ Ext wo wr) (fun it _ => 4 - (intOf it).toNat)
      case atStart => exact ⟨0, by decide, rfl, Ext.refl _⟩
      case round =>
        obtain ⟨i, hi, rfl, hX⟩ := hrel
        have e0 := (Below.cell hX (p := ⟨w.heap.size, 0, none⟩) hz2).trans d0
        have e1 := (Below.cell hX (p := ⟨w.heap.size, 1, none⟩) hz2).trans d1
        have hz3 := Nat.lt_of_lt_of_le hz2 hX.size
        have lk3 := Nat.lt_of_lt_of_le lk hX.size
        by_cases hlt2 : i < 4
        · have hiI : (i : Int) < 4 := by omega
          have ci := (Below.cell hX (p := ⟨kb, ko + i, none⟩) lk).trans (HC.out i hlt2)
          obtain ⟨g1, g2⟩ := el_range k hlt i hlt2
          have f1 : ¬ (el k i < 0) := by omega
          have f2 : ¬ (5 ≤ el k i) := by omega
          have hik : i ≤ kc := by omega
          have HX2 := Lib.hid hX
          clear hX
          rcases Nat.eq_zero_or_pos i with hi0 | hi0
          · subst hi0
            rw [Nat.add_zero] at ci
            go_wp2
            go_roundw
            case rel => exact ⟨1, by decide, rfl, HX2.out⟩
            case measure => simp [intOf]
          · obtain ⟨j, rfl⟩ : ∃ j, i = j + 1 := ⟨i - 1, by omega⟩
            have cj := (Below.cell HX2.out (p := ⟨kb, ko + j, none⟩) lk).trans (HC.out j (by omega))
            have f3 := el_up k hlt j (by omega)
            have f4 : ¬ (el k (j + 1) ≤ el k j) := by omega
            have f5 : (0 : Int) < ((j + 1 : Nat) : Int) := by omega
            have f6 : ((j + 1 : Nat) : Int) - 1 = (j : Int) := by omega
            go_wp2
            go_roundw
            case rel => exact ⟨j + 1 + 1, by omega, by go_num, HX2.out⟩
            case measure => simp [intOf]; omega
        · have hiI : ¬ ((i : Int) < 4) := by omega
          go_wp2
          go_roundw
          case rel => exact ⟨k + 1, by omega, by go_num, HX.out.trans hX⟩
          case measure => simp [intOf]; omega
    · have hkI : ¬ ((k : Int) < 5) := by omega
      go_wp2_with fail
      go_ret
      exact ⟨rfl, HXW.out.trans hX⟩
end Go.Proofs.YtjabgpejmnpamaaGreatDoor
