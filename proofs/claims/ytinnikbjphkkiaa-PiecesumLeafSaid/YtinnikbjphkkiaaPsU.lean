/-
  Chapter 25 (piecesum): the walk of PiecesumSet.
-/
import Derived.Test.YtinnikbjphkkiaaPsT
namespace Go.Proofs.Ytinnikbjphkkiaa
open Go.RowKit
set_option linter.unusedVariables false

/-- append of a slice, empty or not, onto a literal without elements -/
theorem wpList_append_lit {P : Program} {α : Type} {enc : α → Value} (henc : ∀ x, (enc x).oneCell' = true) {w : World} {ops : Array Oper} {rest : List Oper} {o : Oper} {a : Act} {Q : Exit → Act → World → Prop}
    (hgd : o.guard = none) (s x : Operand) (t : TypeId) (ho : o.op = .call { callee := .builtin .append, args := #[s, x], argTypes := #[t, t] })
    (e : TypeId) (i : TypeInfo) (z : Value) (bytes : Nat) (ht : P.underlying t = some (.slice e)) (hi : P.info? e = some i) (hz : i.zero = some z) (hsize : i.size = 1) (hby : i.bytes = bytes) (hzs : z.cells.size = 1)
    (base q : Nat) (hs : a.eval s = .slice (some ⟨q, 0, none⟩) 0 0) (hown : w.ownsRow base e 1 (.slice (some ⟨q, 0, none⟩) 0 0) 0 []) (hbase : base ≤ w.heap.size)
    (vx : Value) (l : List α) (hx : a.eval x = vx) (hsrc : SliceAt enc w vx l) (h63 : l.length ≤ maxLen) (hbytes : l.length * bytes ≤ 140737488355328)
    (h : ∀ v' w', w'.ownsRow base e 1 v' l.length (l.map enc) → Ext w w' → (∀ g, ownB v' = some g → w.heap.size ≤ g ∧ g < w'.heap.size) → wpList P ops Q rest (a.put o.dst v') w') : wpList P ops Q (o :: rest) a w := by
  cases l with
  | nil =>
    obtain ⟨ad, cap, rfl, _, hsrc⟩ := hsrc
    have key : wpList P ops Q rest (a.put o.dst (.slice (some ⟨q, 0, none⟩) 0 0)) w := h _ w (by simpa using hown) (Ext.refl _) (fun g hg => by simp [ownB] at hg)
    cases ad with
    | none =>
      rcases hsrc with ⟨_, hc⟩ | ⟨b, off, hn, _⟩
      · rw [hc rfl] at hx
        exact wpList_append_own_none hgd s x t ho base e i 1 ht hi _ 0 [] hs hown (by simpa using hx) key
      · cases hn
    | some ad =>
      refine wpList_plain hgd fun K hK => ?_
      have hrun := run_append_room_cells (P := P) w t o.type e i ht hi q 0 0 0 ad 0 cap [] (by simp) (by simp) (by simp) (Nat.le_refl _) (by simp) (by simp)
      unfold Oper.wp
      simp [execOp, ho, resolve, invoke, builtin, hs, hx, hrun, Result.andThen]
      exact hK _ _ key
  | cons y l =>
    refine wpList_append_fresh henc hgd s x t ho e i z bytes ht hi hz hsize hby hzs q hs vx (y :: l) hx hsrc (by simp) h63 hbytes (fun v' w' h1 h2 => h v' w' ?_ h2 ?_)
    · exact ⟨h1.1, h1.2.imp id (fun ⟨g, cap, cur, hv, hg, r⟩ => ⟨g, cap, cur, hv, Nat.le_trans hbase hg, r⟩)⟩
    · intro g hg
      rcases h1.2 with ⟨hv, _⟩ | ⟨g', cap, cur, hv, hg', hh, _⟩
      · rw [hv] at hg; simp [ownB] at hg
      · rw [hv] at hg
        cases cap with
        | zero => simp [ownB] at hg
        | succ c => simp [ownB] at hg; subst hg; exact ⟨hg', (Array.getElem?_eq_some_iff.1 hh).1⟩

/-- what is known while a leaf is copied -/
def copyPosts (V : World) (l1 l2 : List (BitVec 64)) : Nat → List Value → Value → World → Prop := fun i u v w =>
  if i = 0 then OwnU w V.heap.size v [] ∧ ∃ q, v = .slice (some ⟨q, 0, none⟩) 0 0 else if i = 4 then OwnU w V.heap.size v [] ∧ ∃ q, v = .slice (some ⟨q, 0, none⟩) 0 0 else
  if i = 3 then OwnU w V.heap.size v l1 else if i = 7 then OwnU w V.heap.size v l2 else if i = 8 then v = .agg u.toArray else
    ∃ k, v = .pointer (some ⟨k, 0, none⟩) ∧ V.heap.size ≤ k ∧ BoxAt w k #[.slice none 0 0, .slice none 0 0] 32

theorem OwnU.put {w : World} {B q n c : Nat} {l : List (BitVec 64)} (h : OwnU w B (.slice (some ⟨q, 0, none⟩) n c) l) (hn : n = l.length) (k : Nat) (x : BitVec 64) : OwnU (w.setCell ⟨q, k, none⟩ (encU x)) B (.slice (some ⟨q, 0, none⟩) n c) (l.set k x) := by
  subst hn
  have := (World.ownsRow.stored h k (encU x)).1
  show World.ownsRow _ _ _ _ _ _ _
  rw [List.length_set, List.map_set]; exact this
theorem OwnU.off {w : World} {B q : Nat} {v : Value} {l : List (BitVec 64)} (h : OwnU w B v l) (hne : v.ownBlock ≠ some q) (k : Nat) (y : Value) : OwnU (w.setCell ⟨q, k, none⟩ y) B v l :=
  h.kept (grown_set w q k y) (.inr hne)
/-- the first k numbers made greater by one -/
def incK (k : Nat) (l : List (BitVec 64)) : List (BitVec 64) := (l.take k).map (· + 1#64) ++ l.drop k
theorem incK_zero (l : List (BitVec 64)) : incK 0 l = l := by simp [incK]
theorem incK_len (k : Nat) (l : List (BitVec 64)) (h : k ≤ l.length) : (incK k l).length = l.length := by simp [incK]; omega
theorem incK_get (k : Nat) (l : List (BitVec 64)) (h : k < l.length) : (incK k l)[k]'(by rw [incK_len k l (by omega)]; exact h) = l.getD k 0#64 := by
  rw [getD_in h]
  unfold incK
  rw [List.getElem_append_right (by simp; omega)]
  have : ((l.take k).map (· + 1#64)).length = k := by simp; omega
  simp only [this, Nat.sub_self, List.getElem_drop, Nat.add_zero]
theorem incK_succ (k : Nat) (l : List (BitVec 64)) (h : k < l.length) : (incK k l).set k (l.getD k 0#64 + 1#64) = incK (k + 1) l := by
  rw [getD_in h]
  unfold incK
  have hl : ((l.take k).map (· + 1#64)).length = k := by simp; omega
  rw [List.set_append_right _ _ (by omega), hl, Nat.sub_self, List.drop_eq_getElem_cons h, List.set_cons_zero, List.take_succ_eq_append_getElem h, List.map_append]
  simp
/-- two leaves whose versions are made greater, number by number -/
structure SetInv (wd : World) (A1 A2 : List (BitVec 64)) (v1 v2 v3 v4 : Value) (g1 g2 k : Nat) (wr : World) : Prop where
  o1 : OwnU wr wd.heap.size v1 (incK k A1)
  o2 : OwnU wr wd.heap.size v2 A2
  o3 : OwnU wr wd.heap.size v3 (incK k A1)
  o4 : OwnU wr wd.heap.size v4 A2
  b1 : BoxAt wr g1 #[v1, v2] 32
  b2 : BoxAt wr g2 #[v3, v4] 32
  bl : Below wd.heap.size wd wr
theorem SetInv.step {wd : World} {A1 A2 : List (BitVec 64)} {v2 v4 : Value} {g1 g2 k m q1 q3 c1 c3 : Nat} {wr : World} (h : SetInv wd A1 A2 (.slice (some ⟨q1, 0, none⟩) m c1) v2 (.slice (some ⟨q3, 0, none⟩) m c3) v4 g1 g2 k wr)
    (hm : A1.length = m) (hk : k < m) (n13 : q1 ≠ q3) (n12 : v2.ownBlock ≠ some q1) (n14 : v4.ownBlock ≠ some q1) (n32 : v2.ownBlock ≠ some q3) (n34 : v4.ownBlock ≠ some q3) :
    SetInv wd A1 A2 (.slice (some ⟨q1, 0, none⟩) m c1) v2 (.slice (some ⟨q3, 0, none⟩) m c3) v4 g1 g2 (k + 1) ((wr.setCell ⟨q1, k, none⟩ (encU (A1.getD k 0#64 + 1#64))).setCell ⟨q3, k, none⟩ (encU (A1.getD k 0#64 + 1#64))) := by
  have hb1 := (World.ownsRow.lt h.o1 q1 rfl).1
  have hb3 := (World.ownsRow.lt h.o3 q3 rfl).1
  have hl : (incK k A1).length = m := by rw [incK_len k A1 (by omega)]; exact hm
  have e1 : ∀ g, BoxAt wr g #[.slice (some ⟨q1, 0, none⟩) m c1, v2] 32 → g ≠ q1 ∧ g ≠ q3 := fun g hg => ⟨fun e => h.o1.not_box hg (by decide) (by rw [e]; rfl), fun e => h.o3.not_box hg (by decide) (by rw [e]; rfl)⟩
  have e2 : ∀ g, BoxAt wr g #[.slice (some ⟨q3, 0, none⟩) m c3, v4] 32 → g ≠ q1 ∧ g ≠ q3 := fun g hg => ⟨fun e => h.o1.not_box hg (by decide) (by rw [e]; rfl), fun e => h.o3.not_box hg (by decide) (by rw [e]; rfl)⟩
  have i1 := h.o1.put hl.symm k (A1.getD k 0#64 + 1#64)
  have i3 := (h.o3.off (q := q1) (fun e => n13 (by injection e with e; exact e.symm)) k (encU (A1.getD k 0#64 + 1#64))).put hl.symm k (A1.getD k 0#64 + 1#64)
  rw [incK_succ k A1 (by omega)] at i1 i3
  exact ⟨i1.off (fun e => n13 (by injection e)) _ _, (h.o2.off n12 _ _).off n32 _ _, i3, (h.o4.off n14 _ _).off n34 _ _, (h.b1.set_off (e1 _ h.b1).1 _ _).set_off (e1 _ h.b1).2 _ _, (h.b2.set_off (e2 _ h.b2).1 _ _).set_off (e2 _ h.b2).2 _ _, bel_set (bel_set h.bl hb1 _ _) hb3 _ _⟩
theorem add_one_un (x : BitVec 64) : IntKind.u64.wrap (un x + 1) = un (x + 1#64) := by
  have : IntKind.u64.wrap (un x + 1) = (un x + 1) % 18446744073709551616 := by simp only [IntKind.wrap, IntKind.bits, IntKind.signed]; simp
  rw [this]; unfold un; rw [BitVec.toNat_add]; simp
attribute [local go_sem] add_one_un

set_option maxHeartbeats 1600000 in
theorem piecesumSet_walk (vv vs : Value) (lv ls : List (BitVec 64)) (g p : Int) (v : BitVec 64) (x0 x1 x2 x3 x4 x5 x6 x7 : BitVec 8) (w : World) (h1 : SliceAt encU w vv lv) (h2 : SliceAt encU w vs ls) (hlv : lv.length ≤ maxLen) (hls : ls.length ≤ maxLen) (hg : I64 g) (hp : I64 p) :
    Calls Try.prog 5 #[.agg #[vv, vs], .agg #[encI g, encI p, encU v, encB x0, encB x1, encB x2, encB x3, encB x4, encB x5, encB x6, encB x7]] w fun e w' => e = .returned (.bool true) ∧ Below w.heap.size w w' := by
  unfold I64 at hg hp
  have H1 := Lib.hid h1
  have H2 := Lib.hid h2
  obtain ⟨ad1, cap1, rfl, hc1, _⟩ := h1
  obtain ⟨ad2, cap2, rfl, hc2, _⟩ := h2
  clear hlv hls hc1 hc2
  by_cases hf : lv.length ≤ 40 ∧ ls.length ≤ 40
  · obtain ⟨hlv, hls⟩ := hf
    have HF := Lib.hid fun (x : World) (hx : Ext w x) => fair_as true _ _ lv ls x (by simp [hlv, hls]) (H1.out.ext hx) (H2.out.ext hx)
    go_enter Try.func5, Try.ntmps5
    go_wp2_with fail
    have hz : w.heap.size + 1 < ((w.alloc (.cells #[.slice ad1 lv.length cap1, .slice ad2 ls.length cap2] 32)).alloc (.cells #[encI g, encI p, encU v, encB x0, encB x1, encB x2, encB x3, encB x4, encB x5, encB x6, encB x7] 26)).heap.size := by simp
    have hsz : ((w.alloc (.cells #[.slice ad1 lv.length cap1, .slice ad2 ls.length cap2] 32)).alloc (.cells #[encI g, encI p, encU v, encB x0, encB x1, encB x2, encB x3, encB x4, encB x5, encB x6, encB x7] 26)).heap.size = w.heap.size + 2 := by simp
    generalize hW : (w.alloc (.cells #[.slice ad1 lv.length cap1, .slice ad2 ls.length cap2] 32)).alloc (.cells #[encI g, encI p, encU v, encB x0, encB x1, encB x2, encB x3, encB x4, encB x5, encB x6, encB x7] 26) = W at *
    have c0_0 : W.cell? ⟨w.heap.size, 0, none⟩ = some (.slice ad1 lv.length cap1) := by rw [← hW]; refine (World.cell?_alloc_past (hn := by first | (simp; done) | (simp; omega)) ..).trans ?_; first | exact (World.cell?_alloc_at (hn := by first | (simp; done) | (simp; omega)) ..).trans rfl | (simp; done) | (go_simp; done)
    have c0_1 : W.cell? ⟨w.heap.size, 1, none⟩ = some (.slice ad2 ls.length cap2) := by rw [← hW]; refine (World.cell?_alloc_past (hn := by first | (simp; done) | (simp; omega)) ..).trans ?_; first | exact (World.cell?_alloc_at (hn := by first | (simp; done) | (simp; omega)) ..).trans rfl | (simp; done) | (go_simp; done)
    have hf0 : ∀ o, W.frozen? ⟨w.heap.size, o, none⟩ = false := fun o => by rw [← hW]; refine (World.frozen?_alloc_past (hn := by first | (simp; done) | (simp; omega)) ..).trans ?_; first | exact World.frozen?_alloc_at (hn := by first | (simp; done) | (simp; omega)) .. | (simp; done) | (go_simp; done)
    have c1_0 : W.cell? ⟨w.heap.size + 1, 0, none⟩ = some (encI g) := by rw [← hW]; first | exact (World.cell?_alloc_at (hn := by first | (simp; done) | (simp; omega)) ..).trans rfl | (simp; done) | (go_simp; done)
    have c1_1 : W.cell? ⟨w.heap.size + 1, 1, none⟩ = some (encI p) := by rw [← hW]; first | exact (World.cell?_alloc_at (hn := by first | (simp; done) | (simp; omega)) ..).trans rfl | (simp; done) | (go_simp; done)
    have c1_2 : W.cell? ⟨w.heap.size + 1, 2, none⟩ = some (encU v) := by rw [← hW]; first | exact (World.cell?_alloc_at (hn := by first | (simp; done) | (simp; omega)) ..).trans rfl | (simp; done) | (go_simp; done)
    have c1_3 : W.cell? ⟨w.heap.size + 1, 3, none⟩ = some (encB x0) := by rw [← hW]; first | exact (World.cell?_alloc_at (hn := by first | (simp; done) | (simp; omega)) ..).trans rfl | (simp; done) | (go_simp; done)
    have c1_4 : W.cell? ⟨w.heap.size + 1, 4, none⟩ = some (encB x1) := by rw [← hW]; first | exact (World.cell?_alloc_at (hn := by first | (simp; done) | (simp; omega)) ..).trans rfl | (simp; done) | (go_simp; done)
    have c1_5 : W.cell? ⟨w.heap.size + 1, 5, none⟩ = some (encB x2) := by rw [← hW]; first | exact (World.cell?_alloc_at (hn := by first | (simp; done) | (simp; omega)) ..).trans rfl | (simp; done) | (go_simp; done)
    have c1_6 : W.cell? ⟨w.heap.size + 1, 6, none⟩ = some (encB x3) := by rw [← hW]; first | exact (World.cell?_alloc_at (hn := by first | (simp; done) | (simp; omega)) ..).trans rfl | (simp; done) | (go_simp; done)
    have c1_7 : W.cell? ⟨w.heap.size + 1, 7, none⟩ = some (encB x4) := by rw [← hW]; first | exact (World.cell?_alloc_at (hn := by first | (simp; done) | (simp; omega)) ..).trans rfl | (simp; done) | (go_simp; done)
    have c1_8 : W.cell? ⟨w.heap.size + 1, 8, none⟩ = some (encB x5) := by rw [← hW]; first | exact (World.cell?_alloc_at (hn := by first | (simp; done) | (simp; omega)) ..).trans rfl | (simp; done) | (go_simp; done)
    have c1_9 : W.cell? ⟨w.heap.size + 1, 9, none⟩ = some (encB x6) := by rw [← hW]; first | exact (World.cell?_alloc_at (hn := by first | (simp; done) | (simp; omega)) ..).trans rfl | (simp; done) | (go_simp; done)
    have c1_10 : W.cell? ⟨w.heap.size + 1, 10, none⟩ = some (encB x7) := by rw [← hW]; first | exact (World.cell?_alloc_at (hn := by first | (simp; done) | (simp; omega)) ..).trans rfl | (simp; done) | (go_simp; done)
    have hf1 : ∀ o, W.frozen? ⟨w.heap.size + 1, o, none⟩ = false := fun o => by rw [← hW]; first | exact World.frozen?_alloc_at (hn := by first | (simp; done) | (simp; omega)) .. | (simp; done) | (go_simp; done)
    have hxW : Ext w W := by rw [← hW]; exact Ext.trans (Ext.alloc _ _) (Ext.alloc _ _)
    clear hW
    have HSZ := Lib.hid hsz
    clear hsz
    have hz0 : w.heap.size < W.heap.size := by omega
    have hz1 : w.heap.size + 1 < W.heap.size := by omega
    go_wp2_with fail
    have hxW0 : Ext W W := Ext.refl W
    go_at_call 10
    refine (awake_any _).mono ?_
    rintro e w2 ⟨rfl, hb2⟩
    have hx2 : Ext W w2 := hxW0.trans hb2
    have hc2 := hx2.cells
    have hs2 := hx2.size
    have hq2 := Below.size hb2
    have hlt2 := Nat.lt_of_lt_of_le hz hs2
    have hlu2 : w.heap.size < w2.heap.size := by omega
    skip
    go_wp2_with fail
    go_at_call 16
    refine (HF.out _ (hxW.trans hx2)).mono ?_
    rintro e w3 ⟨rfl, hb3⟩
    have hx3 : Ext W w3 := hx2.trans hb3
    have hc3 := hx3.cells
    have hs3 := hx3.size
    have hq3 := Below.size hb3
    have hlt3 := Nat.lt_of_lt_of_le hz hs3
    have hlu3 : w.heap.size < w3.heap.size := by omega
    skip
    go_wp2_with fail
    have HV1 := Lib.hid (H1.out.ext (hxW.trans hx3))
    have HV2 := Lib.hid (H2.out.ext (hxW.trans hx3))
    obtain ⟨i0, hi, hi0, hi1, hi2⟩ := info_parts infoU
    refine wp_region_par [(1, true), (2, true), (5, true), (6, true)] [(0, 19), (3, 22), (4, 23), (7, 26), (8, 27), (9, 5)] [(3, [0]), (7, [4]), (8, [3,7])] [3,7] [(10, false)] (by kernel_rfl) (by kernel_rfl) ?_
    iterate 4 (first
     | (refine extK_move rfl rfl (by rfl) (by rfl) ?_; simp only [Act.put, List.setIfInBounds_toArray, List.set_cons_zero, List.set_cons_succ])
     | (refine extK_assign rfl rfl (by rfl) (by rfl) ?_; simp only [Act.put, List.setIfInBounds_toArray, List.set_cons_zero, List.set_cons_succ])
     | (refine extK_pick_t rfl rfl (by rfl) (by rfl) (by rfl) ?_; simp only [Act.put, List.setIfInBounds_toArray, List.set_cons_zero, List.set_cons_succ])
     | (refine extK_pick_f rfl rfl (by rfl) (by rfl) (by rfl) ?_; simp only [Act.put, List.setIfInBounds_toArray, List.set_cons_zero, List.set_cons_succ])
     | (apply extK_take rfl (by rfl)
        · intro w' hS
          have hSc := hS.cells
          (try simp only [World.size_drew, World.cell?_drew] at hSc)
          go_simp
          (try simp (disch := omega) only [i64_id, u64_id, ↓IntWalk.iteOmega, Int.tdiv_eq_ediv_of_nonneg, Int.tmod_eq_emod_of_nonneg])
          try rfl
        simp only [Act.put, List.setIfInBounds_toArray, List.set_cons_zero, List.set_cons_succ])
     | (refine extK_pass rfl (by rfl) ?_; simp only [Act.put, List.setIfInBounds_toArray, List.set_cons_zero, List.set_cons_succ]))
    refine extK_nil ?_
    refine ⟨copyPosts w3 lv ls, ?_, ?_, ?_⟩
    · exact ⟨fun _ _ _ _ e h => ⟨OwnU.ext h.1 e, h.2⟩, fun _ _ _ _ e h => OwnU.ext h e, fun _ _ _ _ e h => ⟨OwnU.ext h.1 e, h.2⟩, fun _ _ _ _ e h => OwnU.ext h e, fun _ _ _ _ e h => h, fun _ _ _ _ e ⟨k, h1, h2, h3⟩ => ⟨k, h1, h2, h3.ext e⟩, trivial⟩
    · refine ⟨fun vals x hx hp => ⟨_, rfl, by rfl, fun K hK => ?_⟩, fun vals x hx hp => ⟨_, rfl, by rfl, fun K hK => ?_⟩, fun vals x hx hp => ⟨_, rfl, by rfl, fun K hK => ?_⟩, fun vals x hx hp => ⟨_, rfl, by rfl, fun K hK => ?_⟩, fun vals x hx hp => ⟨_, rfl, by rfl, fun K hK => ?_⟩, fun vals x hx hp => ⟨_, rfl, by rfl, fun K hK => ?_⟩, trivial⟩
      all_goals replace hx := (Ext.drew w3).trans hx
      all_goals simp only [laidT, Act.put, List.setIfInBounds_toArray, List.set_cons_zero, List.set_cons_succ] at hK ⊢
      · go_simp
        exact hK _ _ (Ext.alloc _ _) ⟨World.ownsRow_lit x #[] 0 hx.size (by decide) rfl, _, rfl⟩ (fun h => absurd h (by decide))
      · obtain ⟨hq0, q, hq⟩ : OwnU x w3.heap.size (vals 0) [] ∧ ∃ q, vals 0 = .slice (some ⟨q, 0, none⟩) 0 0 := hp.1
        simp only [hq] at hK ⊢
        rw [hq] at hq0
        refine wp_of_list rfl ?_
        refine wpList_append_lit (enc := encU) (fun _ => rfl) rfl _ _ 30 rfl 22 i0 (.int .u64 0) 8 Try.underlying30 hi hi0 hi1 hi2 rfl w3.heap.size q rfl hq0 hx.size _ lv rfl (HV1.out.ext hx) (by unfold maxLen; omega) (by omega) ?_
        intro v2 w2 ho2 hb2 hf2
        exact hK _ _ hb2 ho2 (fun _ => hf2)
      · go_simp
        exact hK _ _ (Ext.alloc _ _) ⟨World.ownsRow_lit x #[] 0 hx.size (by decide) rfl, _, rfl⟩ (fun h => absurd h (by decide))
      · obtain ⟨hq0, q, hq⟩ : OwnU x w3.heap.size (vals 4) [] ∧ ∃ q, vals 4 = .slice (some ⟨q, 0, none⟩) 0 0 := hp.1
        simp only [hq] at hK ⊢
        rw [hq] at hq0
        refine wp_of_list rfl ?_
        refine wpList_append_lit (enc := encU) (fun _ => rfl) rfl _ _ 30 rfl 22 i0 (.int .u64 0) 8 Try.underlying30 hi hi0 hi1 hi2 rfl w3.heap.size q rfl hq0 hx.size _ ls rfl (HV2.out.ext hx) (by unfold maxLen; omega) (by omega) ?_
        intro v2 w2 ho2 hb2 hf2
        exact hK _ _ hb2 ho2 (fun _ => hf2)
      · have h4 : OwnU x w3.heap.size (vals 3) lv := hp.1
        have h9 : OwnU x w3.heap.size (vals 7) ls := hp.2.1
        obtain ⟨a4, c4, e4⟩ := h4.shape
        obtain ⟨a9, c9, e9⟩ := h9.shape
        simp only [e4, e9] at hK ⊢
        go_simp
        exact hK _ _ (Ext.refl _) (by show _ = Value.agg #[vals 3, vals 7]; rw [e4, e9]) (fun h => absurd h (by decide))
      · go_simp
        exact hK _ _ (Ext.alloc _ _) ⟨_, rfl, hx.size, heap_alloc_new _ _⟩ (fun h => absurd h (by decide))
    · intro vals wc hxc hp hfr hap
      replace hxc := (Ext.drew w3).trans hxc
      have hv1 : OwnU wc w3.heap.size (vals 3) lv := hp.2.1
      have hv2 : OwnU wc w3.heap.size (vals 7) ls := hp.2.2.2.1
      have hv3 : vals 8 = .agg #[vals 3, vals 7] := hp.2.2.2.2.1
      obtain ⟨gb, hv4, hgb, hbx⟩ : ∃ k, vals 9 = .pointer (some ⟨k, 0, none⟩) ∧ w3.heap.size ≤ k ∧ BoxAt wc k #[.slice none 0 0, .slice none 0 0] 32 := hp.2.2.2.2.2.1
      have hap := hap 3 (by decide) (by decide) 7 (by decide) (by decide) (by decide)
      obtain ⟨b1, d1, e1⟩ := hv1.shape
      obtain ⟨b2, d2, e2⟩ := hv2.shape
      simp only [laidT, Act.put, List.setIfInBounds_toArray, List.set_cons_zero, List.set_cons_succ]
      simp only [hv3, hv4, e1, e2]
      rw [e1] at hv1 hap
      rw [e2] at hv2 hap
      have hgl := hbx.lt
      have hc0 := hbx.cell 0 rfl
      have hc1 := hbx.cell 1 rfl
      have hf0 := hbx.free 0
      have hf1 := hbx.free 1
      have HAP := Lib.hid hap
      have HV3 := Lib.hid ((hv1.kept (grown_set wc gb 0 (.slice b1 lv.length d1)) (.inr (hv1.not_box hbx (by decide)))).kept (grown_set _ gb 1 (.slice b2 ls.length d2)) (.inr (hv1.not_box hbx (by decide))))
      have HV4 := Lib.hid ((hv2.kept (grown_set wc gb 0 (.slice b1 lv.length d1)) (.inr (hv2.not_box hbx (by decide)))).kept (grown_set _ gb 1 (.slice b2 ls.length d2)) (.inr (hv2.not_box hbx (by decide))))
      have HBX := Lib.hid ((hbx.set 0 (.slice b1 lv.length d1)).set 1 (.slice b2 ls.length d2))
      have HBL := Lib.hid (bel_set (bel_set (Ext.below hxc) hgb 0 (.slice b1 lv.length d1)) hgb 1 (.slice b2 ls.length d2))
      generalize vals 0 = r0 at *
      generalize vals 4 = r4 at *
      clear hp hap hfr hv1 hv2 hv3 hv4 e1 e2 hbx
      (refine ext_last rfl (by rfl) (by kernel_rfl) (fun K hK => ?_)
       go_simp
       refine hK _ _ ?_
       clear hK K
       (try simp only [Act.put, List.setIfInBounds_toArray, List.set_cons_zero, List.set_cons_succ]))
      generalize (wc.setCell ⟨gb, 0, none⟩ (.slice b1 lv.length d1)).setCell ⟨gb, 1, none⟩ (.slice b2 ls.length d2) = wd at *
      clear hc0 hc1 hf0 hf1 hgl
      have HBL2 := Lib.hid (Below.trans hx3 (Below.mono HBL.out hs3))
      have hsd := HBL.out.size
      have hcd := below_cellsB HBL.out
      have hgl := HBX.out.lt
      have hgc0 := HBX.out.cell 0 rfl
      have hgc1 := HBX.out.cell 1 rfl
      have hyd0 : w.heap.size < wd.heap.size := by omega
      have hyd1 : w.heap.size + 1 < wd.heap.size := by omega
      have HO1 := Lib.hid (OwnU.slice HV3.out)
      have HO2 := Lib.hid (OwnU.slice HV4.out)
      have hxwd : Ext w wd := (hxW.trans hx3).trans HBL.out
      have hy3 : w.heap.size < w3.heap.size := by omega
      have hy31 : w.heap.size + 1 < w3.heap.size := by omega
      simp (config := {decide := true}) only [Array.setIfInBounds, List.size_toArray, List.length_cons, List.length_nil] at hgc0 hgc1
      generalize hm : min lv.length ls.length = m at *
      have HM := Lib.hid hm
      have hm40 : m ≤ 40 := by omega
      clear hm
      by_cases hout : p < 0 ∨ (m : Int) ≤ p
      · go_wp2_with fail
        go_at_call 20
        refine (pset_no _ _ lv ls g p v x0 x1 x2 x3 x4 x5 x6 x7 _ (by omega) (by omega) hp (by rw [HM.out]; exact hout) HO1.out HO2.out).mono ?_
        rintro e w5 ⟨rfl, hb5⟩
        have hx56 : Ext wd (w5.alloc (.cells #[.slice none 0 0, .slice none 0 0] 32)) := Ext.trans hb5 (Ext.alloc _ _)
        have hz5 : w5.heap.size < (w5.alloc (.cells #[.slice none 0 0, .slice none 0 0] 32)).heap.size := by simp
        have hs5 := Ext.size hb5
        have e0 : (w5.alloc (.cells #[.slice none 0 0, .slice none 0 0] 32)).cell? ⟨w5.heap.size, 0, none⟩ = some (.slice none 0 0) := by simp
        have e1 : (w5.alloc (.cells #[.slice none 0 0, .slice none 0 0] 32)).cell? ⟨w5.heap.size, 1, none⟩ = some (.slice none 0 0) := by simp
        go_upto_region 5 with fail
        generalize w5.alloc (.cells #[.slice none 0 0, .slice none 0 0] 32) = w6 at *
        have hc6 := hx56.cells
        have hs6 := hx56.size
        have hz60 : w.heap.size < w6.heap.size := by omega
        have hz61 : w.heap.size + 1 < w6.heap.size := by omega
        go_wp2_with fail
        go_at_call 21
        refine (rset_no _ _ lv ls g p v x0 x1 x2 x3 x4 x5 x6 x7 _ (by omega) (by omega) hp (by rw [HM.out]; exact hout) (H1.out.ext (hxwd.trans hx56)) (H2.out.ext (hxwd.trans hx56))).mono ?_
        rintro e w7 ⟨rfl, hb7⟩
        have hx68 : Ext w6 (w7.alloc (.cells #[.slice none 0 0, .slice none 0 0] 32)) := Ext.trans hb7 (Ext.alloc _ _)
        have hz7 : w7.heap.size < (w7.alloc (.cells #[.slice none 0 0, .slice none 0 0] 32)).heap.size := by simp
        have hs7 := Ext.size hb7
        have k0 : (w7.alloc (.cells #[.slice none 0 0, .slice none 0 0] 32)).cell? ⟨w7.heap.size, 0, none⟩ = some (.slice none 0 0) := by simp
        have k1 : (w7.alloc (.cells #[.slice none 0 0, .slice none 0 0] 32)).cell? ⟨w7.heap.size, 1, none⟩ = some (.slice none 0 0) := by simp
        go_upto_region 6 with fail
        generalize w7.alloc (.cells #[.slice none 0 0, .slice none 0 0] 32) = w8 at *
        have hx58 : Ext wd w8 := hx56.trans hx68
        have hc8 := hx58.cells
        have hd8 := hx68.cells
        have hs8 := hx58.size
        have ht8 := hx68.size
        have hz80 : w.heap.size < w8.heap.size := by omega
        have hz81 : w.heap.size + 1 < w8.heap.size := by omega
        have hz85 : w5.heap.size < w8.heap.size := by omega
        have hz8g : gb < w8.heap.size := by omega
        go_wp2_with fail
        refine wp_loop_rounds 1 ?_
        rw [rounds_succ]
        go_wp2_with fail
        go_at_call 13
        refine (same_any _ _ _ _ [] [] [] [] _ (by simp) (by simp) (by simp) (by simp) SliceAt.nil SliceAt.nil SliceAt.nil SliceAt.nil).mono ?_
        rintro e w9 ⟨rfl, hb9⟩
        rw [show sameB [] [] [] [] = true from rfl]
        have hx9 : Ext wd w9 := hx58.trans hb9
        have hc9 := hx9.cells
        have hs9 := hx9.size
        have hz90 : w.heap.size < w9.heap.size := by omega
        have hz9g : gb < w9.heap.size := by omega
        go_wp2_with fail
        go_at_call 13
        refine (same_any _ _ _ _ lv ls lv ls _ (by omega) (by omega) (by omega) (by omega) (HO1.out.ext hx9) (HO2.out.ext hx9) (H1.out.ext (hxwd.trans hx9)) (H2.out.ext (hxwd.trans hx9))).mono ?_
        rintro e w10 ⟨rfl, hb10⟩
        rw [show sameB lv ls lv ls = true from sameB_yes (eqL_self _) (eqL_self _)]
        go_wp2_with fail
        go_ret
        exact ⟨rfl, (hxwd.trans hx9).trans hb10⟩
      · obtain ⟨k, rfl⟩ : ∃ k : Nat, p = k := ⟨p.toNat, by omega⟩
        have hk : k < m := by omega
        go_wp2_with fail
        go_at_call 20
        refine (pset_ok _ _ lv ls g k v x0 x1 x2 x3 x4 x5 x6 x7 _ (by omega) (by omega) hg (by rw [HM.out]; exact hk) HO1.out HO2.out).mono ?_
        rintro e w5 h
        unfold SetEnd at h
        obtain ⟨v1, v2, rfl, ho1, ho2, hap12, hb5⟩ := h
        rw [HM.out] at ho1 ho2
        have hl1 : Hid ((setL m lv k v).length = m) := setL_len _ _ _ _ (by have := HM.out; omega)
        have hl2 : Hid ((setL m ls k (psum g k v [x0, x1, x2, x3, x4, x5, x6, x7])).length = m) := setL_len _ _ _ _ (by have := HM.out; omega)
        have HRS := Lib.hid fun (x : World) (hx : Ext w x) => rset_ok _ _ lv ls g k v x0 x1 x2 x3 x4 x5 x6 x7 x (by omega) (by omega) hg (by rw [HM.out]; exact hk) (H1.out.ext hx) (H2.out.ext hx)
        unfold SetEnd at HRS
        rw [HM.out] at HRS
        generalize setL m lv k v = A1 at *
        generalize setL m ls k (psum g k v [x0, x1, x2, x3, x4, x5, x6, x7]) = A2 at *
        obtain ⟨q1, c1, rfl, hq1, hq1'⟩ := ho1.form (by rw [hl1.out]; omega)
        obtain ⟨q2, c2, rfl, hq2, hq2'⟩ := ho2.form (by rw [hl2.out]; omega)
        rw [hl1.out] at ho1 hap12 ⊢
        rw [hl2.out] at ho2 hap12 ⊢
        have hx56 : Ext wd (w5.alloc (.cells #[.slice (some ⟨q1, 0, none⟩) m (c1 + 1), .slice (some ⟨q2, 0, none⟩) m (c2 + 1)] 32)) := Ext.trans hb5 (Ext.alloc _ _)
        have hx56' : Ext w5 (w5.alloc (.cells #[.slice (some ⟨q1, 0, none⟩) m (c1 + 1), .slice (some ⟨q2, 0, none⟩) m (c2 + 1)] 32)) := Ext.alloc _ _
        have HB1 : Hid (BoxAt (w5.alloc (.cells #[.slice (some ⟨q1, 0, none⟩) m (c1 + 1), .slice (some ⟨q2, 0, none⟩) m (c2 + 1)] 32)) w5.heap.size #[.slice (some ⟨q1, 0, none⟩) m (c1 + 1), .slice (some ⟨q2, 0, none⟩) m (c2 + 1)] 32) := heap_alloc_new _ _
        have hs5 := Ext.size hb5
        go_upto_region 5 with fail
        generalize w5.alloc (.cells #[.slice (some ⟨q1, 0, none⟩) m (c1 + 1), .slice (some ⟨q2, 0, none⟩) m (c2 + 1)] 32) = w6 at *
        have hc6 := hx56.cells
        have hs6 := hx56.size
        have hz6 := HB1.out.lt
        have hz60 : w.heap.size < w6.heap.size := by omega
        have hz61 : w.heap.size + 1 < w6.heap.size := by omega
        go_wp2_with fail
        go_at_call 21
        refine (HRS.out _ (hxwd.trans hx56)).mono ?_
        rintro e w7 ⟨v3, v4, rfl, ho3, ho4, hap34, hb7⟩
        obtain ⟨q3, c3, rfl, hq3, hq3'⟩ := ho3.form (by rw [hl1.out]; omega)
        obtain ⟨q4, c4, rfl, hq4, hq4'⟩ := ho4.form (by rw [hl2.out]; omega)
        rw [hl1.out] at ho3 hap34 ⊢
        rw [hl2.out] at ho4 hap34 ⊢
        have hx68 : Ext w6 (w7.alloc (.cells #[.slice (some ⟨q3, 0, none⟩) m (c3 + 1), .slice (some ⟨q4, 0, none⟩) m (c4 + 1)] 32)) := Ext.trans hb7 (Ext.alloc _ _)
        have hx78 : Ext w7 (w7.alloc (.cells #[.slice (some ⟨q3, 0, none⟩) m (c3 + 1), .slice (some ⟨q4, 0, none⟩) m (c4 + 1)] 32)) := Ext.alloc _ _
        have HB2 : Hid (BoxAt (w7.alloc (.cells #[.slice (some ⟨q3, 0, none⟩) m (c3 + 1), .slice (some ⟨q4, 0, none⟩) m (c4 + 1)] 32)) w7.heap.size #[.slice (some ⟨q3, 0, none⟩) m (c3 + 1), .slice (some ⟨q4, 0, none⟩) m (c4 + 1)] 32) := heap_alloc_new _ _
        have hs7 := Ext.size hb7
        go_upto_region 6 with fail
        generalize w7.alloc (.cells #[.slice (some ⟨q3, 0, none⟩) m (c3 + 1), .slice (some ⟨q4, 0, none⟩) m (c4 + 1)] 32) = w8 at *
        have hx58 : Ext wd w8 := hx56.trans hx68
        have HI : Hid (SetInv wd A1 A2 (.slice (some ⟨q1, 0, none⟩) m (c1 + 1)) (.slice (some ⟨q2, 0, none⟩) m (c2 + 1)) (.slice (some ⟨q3, 0, none⟩) m (c3 + 1)) (.slice (some ⟨q4, 0, none⟩) m (c4 + 1)) w5.heap.size w7.heap.size 0 w8) :=
          ⟨by rw [incK_zero]; exact (ho1.ext hx56').ext hx68, (ho2.ext hx56').ext hx68, by rw [incK_zero]; exact (ho3.ext hx78).lower hs6, (ho4.ext hx78).lower hs6, HB1.out.ext hx68, HB2.out, hx58⟩
        have n12 : q1 ≠ q2 := fun e => hap12 q1 rfl (by rw [e]; rfl)
        have n34 : q3 ≠ q4 := fun e => hap34 q3 rfl (by rw [e]; rfl)
        have n13 : q1 ≠ q3 := by omega
        have n14 : q1 ≠ q4 := by omega
        have n23 : q2 ≠ q3 := by omega
        clear ho1 ho2 ho3 ho4 hap12 hap34
        go_wp2_with fail
        go_loopw [10] (fun i wr => ∃ j : Nat, j ≤ m ∧ i = .int .i64 j ∧ SetInv wd A1 A2 (.slice (some ⟨q1, 0, none⟩) m (c1 + 1)) (.slice (some ⟨q2, 0, none⟩) m (c2 + 1)) (.slice (some ⟨q3, 0, none⟩) m (c3 + 1)) (.slice (some ⟨q4, 0, none⟩) m (c4 + 1)) w5.heap.size w7.heap.size j wr) (fun i _ => m - (intOf i).toNat)
        case atStart => exact ⟨0, by omega, rfl, HI.out⟩
        case round =>
          obtain ⟨j, hj, rfl, hr⟩ := hrel
          have HR := Lib.hid hr
          have hg1 := hr.b1.lt
          have hg2 := hr.b2.lt
          have hh0 := hr.b1.cell 0 rfl
          have hh1 := hr.b1.cell 1 rfl
          have hi0' := hr.b2.cell 0 rfl
          have hi1' := hr.b2.cell 1 rfl
          have hcr := below_cellsB hr.bl
          have hsr := hr.bl.size
          have hz90 : w.heap.size < wr.heap.size := by omega
          have hz9g : gb < wr.heap.size := by omega
          have m1 : w5.heap.size ≠ q1 := fun e => hr.o1.not_box hr.b1 (by decide) (by rw [e]; rfl)
          have m2 : w7.heap.size ≠ q1 := fun e => hr.o1.not_box hr.b2 (by decide) (by rw [e]; rfl)
          have hlen : Hid ((incK j A1).length = m) := by show _ = _; rw [incK_len j A1 (by rw [hl1.out]; exact hj)]; exact hl1.out
          clear hr
          by_cases hlt : j < m
          · have hcell1 : wr.cell? ⟨q1, j, none⟩ = some (encU (A1.getD j 0#64)) := by
              have := World.ownsRow.cellAt (w := wr) (base := wd.heap.size) (e := 22) (size := 1) (g := q1) (n := (incK j A1).length) (cap := c1 + 1) (xs := (incK j A1).map encU) (by rw [hlen.out]; have := HR.out.o1; unfold OwnU at this; rw [hlen.out] at this; exact this) j (by rw [hlen.out]; omega)
              rw [this, List.getElem?_map, List.getElem?_eq_getElem (by rw [hlen.out]; exact hlt), incK_get j A1 (by rw [hl1.out]; exact hlt)]; rfl
            have hcell3 : wr.cell? ⟨q3, j, none⟩ = some (encU (A1.getD j 0#64)) := by
              have := World.ownsRow.cellAt (w := wr) (base := wd.heap.size) (e := 22) (size := 1) (g := q3) (n := (incK j A1).length) (cap := c3 + 1) (xs := (incK j A1).map encU) (by rw [hlen.out]; have := HR.out.o3; unfold OwnU at this; rw [hlen.out] at this; exact this) j (by rw [hlen.out]; omega)
              rw [this, List.getElem?_map, List.getElem?_eq_getElem (by rw [hlen.out]; exact hlt), incK_get j A1 (by rw [hl1.out]; exact hlt)]; rfl
            have hfr1 := HR.out.o1.frees hlen.out.symm
            have hfr3 := HR.out.o3.frees hlen.out.symm
            have HN := Lib.hid (HR.out.step hl1.out hlt n13 (fun e => n12 (by injection e with e; exact e.symm)) (fun e => n14 (by injection e with e; exact e.symm)) (fun e => n23 (by injection e)) (fun e => n34 (by injection e with e; exact e.symm)))
            have n31 := Ne.symm n13
            have hql1 := (World.ownsRow.lt HR.out.o1 q1 rfl).2
            have hql3 := (World.ownsRow.lt HR.out.o3 q3 rfl).2
            generalize A1.getD j 0#64 = z at *
            go_wp2
            go_roundw
            case rel => exact ⟨j + 1, by omega, by go_num, HN.out⟩
            case measure => show m - (intOf (.int .i64 ((j : Int) + 1))).toNat < m - (intOf (.int .i64 (j : Int))).toNat; unfold intOf; simp only; omega
          · have hjm : j = m := by omega
            subst hjm
            have HA1 := Lib.hid (OwnU.slice HR.out.o1)
            have HA2 := Lib.hid (OwnU.slice HR.out.o2)
            have HA3 := Lib.hid (OwnU.slice HR.out.o3)
            have HA4 := Lib.hid (OwnU.slice HR.out.o4)
            generalize incK j A1 = A3 at *
            go_wp2_with fail
            go_at_call 13
            refine (same_any _ _ _ _ A3 A2 A3 A2 _ (by rw [hlen.out]; omega) (by rw [hl2.out]; omega) (by rw [hlen.out]; omega) (by rw [hl2.out]; omega) HA1.out HA2.out HA3.out HA4.out).mono ?_
            rintro e w9 ⟨rfl, hb9⟩
            rw [show sameB A3 A2 A3 A2 = true from sameB_yes (eqL_self _) (eqL_self _)]
            have hx9 : Ext wd w9 := HR.out.bl.trans (Below.mono hb9 hsr)
            have hc9 := hx9.cells
            have hs9 := hx9.size
            have hza0 : w.heap.size < w9.heap.size := by omega
            have hzag : gb < w9.heap.size := by omega
            go_wp2_with fail
            go_at_call 13
            refine (same_any _ _ _ _ lv ls lv ls _ (by omega) (by omega) (by omega) (by omega) (HO1.out.ext hx9) (HO2.out.ext hx9) (H1.out.ext (hxwd.trans hx9)) (H2.out.ext (hxwd.trans hx9))).mono ?_
            rintro e w10 ⟨rfl, hb10⟩
            rw [show sameB lv ls lv ls = true from sameB_yes (eqL_self _) (eqL_self _)]
            go_wp2_with fail
            go_ret
            exact ⟨rfl, (hxwd.trans hx9).trans hb10⟩
  · have HF := Lib.hid fun (x : World) (hx : Ext w x) => fair_as false _ _ lv ls x (by simp; omega) (H1.out.ext hx) (H2.out.ext hx)
    clear hf
    go_enter Try.func5, Try.ntmps5
    go_wp2_with fail
    have hz : w.heap.size + 1 < ((w.alloc (.cells #[.slice ad1 lv.length cap1, .slice ad2 ls.length cap2] 32)).alloc (.cells #[encI g, encI p, encU v, encB x0, encB x1, encB x2, encB x3, encB x4, encB x5, encB x6, encB x7] 26)).heap.size := by simp
    have hsz : ((w.alloc (.cells #[.slice ad1 lv.length cap1, .slice ad2 ls.length cap2] 32)).alloc (.cells #[encI g, encI p, encU v, encB x0, encB x1, encB x2, encB x3, encB x4, encB x5, encB x6, encB x7] 26)).heap.size = w.heap.size + 2 := by simp
    generalize hW : (w.alloc (.cells #[.slice ad1 lv.length cap1, .slice ad2 ls.length cap2] 32)).alloc (.cells #[encI g, encI p, encU v, encB x0, encB x1, encB x2, encB x3, encB x4, encB x5, encB x6, encB x7] 26) = W at *
    have c0_0 : W.cell? ⟨w.heap.size, 0, none⟩ = some (.slice ad1 lv.length cap1) := by rw [← hW]; refine (World.cell?_alloc_past (hn := by first | (simp; done) | (simp; omega)) ..).trans ?_; first | exact (World.cell?_alloc_at (hn := by first | (simp; done) | (simp; omega)) ..).trans rfl | (simp; done) | (go_simp; done)
    have c0_1 : W.cell? ⟨w.heap.size, 1, none⟩ = some (.slice ad2 ls.length cap2) := by rw [← hW]; refine (World.cell?_alloc_past (hn := by first | (simp; done) | (simp; omega)) ..).trans ?_; first | exact (World.cell?_alloc_at (hn := by first | (simp; done) | (simp; omega)) ..).trans rfl | (simp; done) | (go_simp; done)
    have hf0 : ∀ o, W.frozen? ⟨w.heap.size, o, none⟩ = false := fun o => by rw [← hW]; refine (World.frozen?_alloc_past (hn := by first | (simp; done) | (simp; omega)) ..).trans ?_; first | exact World.frozen?_alloc_at (hn := by first | (simp; done) | (simp; omega)) .. | (simp; done) | (go_simp; done)
    have c1_0 : W.cell? ⟨w.heap.size + 1, 0, none⟩ = some (encI g) := by rw [← hW]; first | exact (World.cell?_alloc_at (hn := by first | (simp; done) | (simp; omega)) ..).trans rfl | (simp; done) | (go_simp; done)
    have c1_1 : W.cell? ⟨w.heap.size + 1, 1, none⟩ = some (encI p) := by rw [← hW]; first | exact (World.cell?_alloc_at (hn := by first | (simp; done) | (simp; omega)) ..).trans rfl | (simp; done) | (go_simp; done)
    have c1_2 : W.cell? ⟨w.heap.size + 1, 2, none⟩ = some (encU v) := by rw [← hW]; first | exact (World.cell?_alloc_at (hn := by first | (simp; done) | (simp; omega)) ..).trans rfl | (simp; done) | (go_simp; done)
    have c1_3 : W.cell? ⟨w.heap.size + 1, 3, none⟩ = some (encB x0) := by rw [← hW]; first | exact (World.cell?_alloc_at (hn := by first | (simp; done) | (simp; omega)) ..).trans rfl | (simp; done) | (go_simp; done)
    have c1_4 : W.cell? ⟨w.heap.size + 1, 4, none⟩ = some (encB x1) := by rw [← hW]; first | exact (World.cell?_alloc_at (hn := by first | (simp; done) | (simp; omega)) ..).trans rfl | (simp; done) | (go_simp; done)
    have c1_5 : W.cell? ⟨w.heap.size + 1, 5, none⟩ = some (encB x2) := by rw [← hW]; first | exact (World.cell?_alloc_at (hn := by first | (simp; done) | (simp; omega)) ..).trans rfl | (simp; done) | (go_simp; done)
    have c1_6 : W.cell? ⟨w.heap.size + 1, 6, none⟩ = some (encB x3) := by rw [← hW]; first | exact (World.cell?_alloc_at (hn := by first | (simp; done) | (simp; omega)) ..).trans rfl | (simp; done) | (go_simp; done)
    have c1_7 : W.cell? ⟨w.heap.size + 1, 7, none⟩ = some (encB x4) := by rw [← hW]; first | exact (World.cell?_alloc_at (hn := by first | (simp; done) | (simp; omega)) ..).trans rfl | (simp; done) | (go_simp; done)
    have c1_8 : W.cell? ⟨w.heap.size + 1, 8, none⟩ = some (encB x5) := by rw [← hW]; first | exact (World.cell?_alloc_at (hn := by first | (simp; done) | (simp; omega)) ..).trans rfl | (simp; done) | (go_simp; done)
    have c1_9 : W.cell? ⟨w.heap.size + 1, 9, none⟩ = some (encB x6) := by rw [← hW]; first | exact (World.cell?_alloc_at (hn := by first | (simp; done) | (simp; omega)) ..).trans rfl | (simp; done) | (go_simp; done)
    have c1_10 : W.cell? ⟨w.heap.size + 1, 10, none⟩ = some (encB x7) := by rw [← hW]; first | exact (World.cell?_alloc_at (hn := by first | (simp; done) | (simp; omega)) ..).trans rfl | (simp; done) | (go_simp; done)
    have hf1 : ∀ o, W.frozen? ⟨w.heap.size + 1, o, none⟩ = false := fun o => by rw [← hW]; first | exact World.frozen?_alloc_at (hn := by first | (simp; done) | (simp; omega)) .. | (simp; done) | (go_simp; done)
    have hxW : Ext w W := by rw [← hW]; exact Ext.trans (Ext.alloc _ _) (Ext.alloc _ _)
    clear hW
    have HSZ := Lib.hid hsz
    clear hsz
    have hz0 : w.heap.size < W.heap.size := by omega
    have hz1 : w.heap.size + 1 < W.heap.size := by omega
    go_wp2_with fail
    have hxW0 : Ext W W := Ext.refl W
    go_at_call 10
    refine (awake_any _).mono ?_
    rintro e w2 ⟨rfl, hb2⟩
    have hx2 : Ext W w2 := hxW0.trans hb2
    have hc2 := hx2.cells
    have hs2 := hx2.size
    have hq2 := Below.size hb2
    have hlt2 := Nat.lt_of_lt_of_le hz hs2
    have hlu2 : w.heap.size < w2.heap.size := by omega
    skip
    go_wp2_with fail
    go_at_call 16
    refine (HF.out _ (hxW.trans hx2)).mono ?_
    rintro e w3 ⟨rfl, hb3⟩
    have hx3 : Ext W w3 := hx2.trans hb3
    have hc3 := hx3.cells
    have hs3 := hx3.size
    have hq3 := Below.size hb3
    have hlt3 := Nat.lt_of_lt_of_le hz hs3
    have hlu3 : w.heap.size < w3.heap.size := by omega
    skip
    go_wp2_with fail
    go_at_call 10
    refine (awake_any _).mono ?_
    rintro e w4 ⟨rfl, hb4⟩
    have hx4 : Ext W w4 := hx3.trans hb4
    have hc4 := hx4.cells
    have hs4 := hx4.size
    have hq4 := Below.size hb4
    have hlt4 := Nat.lt_of_lt_of_le hz hs4
    have hlu4 : w.heap.size < w4.heap.size := by omega
    skip
    go_wp2_with fail
    go_ret
    exact ⟨rfl, hxW.trans hx4⟩
end Go.Proofs.Ytinnikbjphkkiaa
