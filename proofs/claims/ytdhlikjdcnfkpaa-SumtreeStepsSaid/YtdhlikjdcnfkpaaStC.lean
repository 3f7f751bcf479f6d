/-
  Chapter 26 (sumtree): Build.
-/
import Derived.Test.YtdhlikjdcnfkpaaStB
namespace Go.Proofs.Ytdhlikjdcnfkpaa
open Go.RowKit
set_option linter.unusedVariables false

def rowP (P : Nat → Nat → Nat) (n k : Nat) : List Nat := (List.range (sz n k)).map (P k)
theorem rowP_len (P : Nat → Nat → Nat) (n k : Nat) : (rowP P n k).length = sz n k := by simp [rowP]
theorem rowP_get {P : Nat → Nat → Nat} {n k i : Nat} (h : i < (rowP P n k).length) : (rowP P n k)[i] = P k i := by simp [rowP]
theorem rowP_cut (P : Nat → Nat → Nat) (n k j : Nat) : ((rowP P n k).drop (4 * j)).take (min (4 * j + 4) (sz n k) - 4 * j) = kidsL P n k j := by
  apply List.ext_getElem
  · rw [List.length_take, List.length_drop, rowP_len, kidsL_len]; unfold kidN; omega
  · intro t h1 h2
    simp [rowP, kidsL]
/-- nodes of level 0 -/
def Leaves (w : World) (ps : List Nat) (l : List (BitVec 64)) : Prop := ∀ i (a : i < ps.length) (b : i < l.length), BoxAt w ps[i] #[encU l[i], .slice none 0 0] 60
/-- a cell whose value no tree holds -/
def Foreign (u : Value) : Prop := (∀ x : BitVec 64, u ≠ encU x) ∧ (∀ a n c, u ≠ .slice a n c) ∧ ∀ q, u ≠ encP q
theorem foreign_int (n : Int) : Foreign (.int .i64 n) := ⟨(fun x h => by unfold encU at h; injection h with h1 _; cases h1), (fun _ _ _ h => by cases h), (fun _ h => by unfold encP at h; cases h)⟩
theorem foreign_nil : Foreign (.pointer none) := ⟨(fun x h => by unfold encU at h; cases h), (fun _ _ _ h => by cases h), (fun _ h => by unfold encP at h; injection h with h1; cases h1)⟩
theorem cell_keep {w : World} {b o b' o' : Nat} {u v x : Value} (h : w.cell? ⟨b, o, none⟩ = some v) (hc : w.cell? ⟨b', o', none⟩ = some u) (hne : v ≠ u) : (w.setCell ⟨b', o', none⟩ x).cell? ⟨b, o, none⟩ = some v := by
  by_cases hb : b' = b
  · subst hb
    rw [set_off (by intro e; subst e; rw [h] at hc; exact hne (Option.some.inj hc))]
    exact h
  · rw [set_block hb]; exact h
theorem sliceP_keep {w : World} {b' o' : Nat} {u v x : Value} {l : List Nat} (h : SliceAt encP w v l) (hc : w.cell? ⟨b', o', none⟩ = some u) (hf : Foreign u) : SliceAt encP (w.setCell ⟨b', o', none⟩ x) v l := by
  obtain ⟨ad, cap, hv, hca, h⟩ := h
  refine ⟨ad, cap, hv, hca, h.imp id ?_⟩
  rintro ⟨b, off, h1, h2, h3⟩
  exact ⟨b, off, h1, by simpa using h2, fun i hi => cell_keep (h3 i hi) hc (fun e => hf.2.2 _ e.symm)⟩
theorem TreeTo.set {w : World} {l : List (BitVec 64)} {P : Nat → Nat → Nat} {K b o : Nat} {u x : Value} (h : TreeTo w l P K) (hc : w.cell? ⟨b, o, none⟩ = some u) (hf : Foreign u) : TreeTo (w.setCell ⟨b, o, none⟩ x) l P K := by
  intro k j hk hj
  obtain ⟨⟨h0, h1, hpl⟩, h2⟩ := h k j hk hj
  refine ⟨⟨by simpa using h0, cell_keep h1 hc (fun e => hf.1 _ e.symm), hpl.set _ _ _⟩, ?_⟩
  cases k with
  | zero => exact cell_keep h2 hc (fun e => hf.2.1 _ _ _ e.symm)
  | succ k =>
    obtain ⟨v, h3, h4⟩ := h2
    exact ⟨v, cell_keep h3 hc (fun e => by obtain ⟨_, _, hv, _⟩ := h4; exact hf.2.1 _ _ _ (e.symm.trans hv)), sliceP_keep h4 hc hf⟩
theorem tree_leaves {w : World} {ps : List Nat} {l : List (BitVec 64)} (h : Leaves w ps l) (hp : ps.length = l.length) : TreeTo w l (fun _ j => ps.getD j 0) 0 := by
  intro k j hk hj
  have hk : k = 0 := by omega
  subst hk
  simp only [sz] at hj
  have hb := h j (by omega) hj
  rw [← getD_in (d := 0) (show j < ps.length by omega)] at hb
  refine ⟨⟨hb.lt, ?_, hb.plain⟩, hb.cell 1 rfl⟩
  rw [show (lvl l 0).getD j 0#64 = l[j] from getD_in hj]
  exact hb.cell 0 rfl
/-- the nodes of the next level -/
def NodesUp (w w1 : World) (l : List (BitVec 64)) (P : Nat → Nat → Nat) (K : Nat) (qs : List Nat) : Prop :=
  ∀ m (a : m < qs.length), ∃ kv, BoxAt w qs[m] #[encU ((lvl l (K + 1)).getD m 0#64), kv] 60 ∧ SliceAt encP w1 kv (kidsL P l.length K m)
def upP (P : Nat → Nat → Nat) (K : Nat) (qs : List Nat) : Nat → Nat → Nat := fun k j => if k = K + 1 then qs.getD j 0 else P k j
theorem tree_up {w w1 : World} {l : List (BitVec 64)} {P : Nat → Nat → Nat} {K : Nat} {qs : List Nat} (h : TreeTo w1 l P K) (hx : Ext w1 w) (hu : NodesUp w w1 l P K qs) (hq : qs.length = sz l.length (K + 1)) : TreeTo w l (upP P K qs) (K + 1) := by
  intro k j hk hj
  by_cases hkk : k = K + 1
  · subst hkk
    have hjq : j < qs.length := by rw [hq]; exact hj
    obtain ⟨kv, hb, hs⟩ := hu j hjq
    have e : upP P K qs (K + 1) j = qs[j] := by unfold upP; rw [if_pos rfl, getD_in hjq]
    rw [e]
    refine ⟨⟨hb.lt, hb.cell 0 rfl, hb.plain⟩, kv, ?_, ?_⟩
    · rw [e]; exact hb.cell 1 rfl
    · have : kidsL (upP P K qs) l.length K j = kidsL P l.length K j := by
        unfold kidsL upP
        apply List.map_congr_left
        intro t _
        rw [if_neg (by omega)]
      rw [this]
      exact hs.ext hx
  · have e : ∀ k', k' ≠ K + 1 → ∀ j, upP P K qs k' j = P k' j := fun k' hk' j => by unfold upP; rw [if_neg hk']
    obtain ⟨h1, h2⟩ := (h.ext hx) k j (by omega) hj
    rw [e k hkk]
    refine ⟨h1, ?_⟩
    cases k with
    | zero => show _ = _; rw [e 0 hkk]; exact h2
    | succ k =>
      obtain ⟨v, h3, h4⟩ := h2
      refine ⟨v, by rw [e _ hkk]; exact h3, ?_⟩
      have : kidsL (upP P K qs) l.length k j = kidsL P l.length k j := by
        unfold kidsL
        apply List.map_congr_left
        intro t _
        rw [e k (by omega)]
      rw [this]
      exact h4
theorem rowP_up {P : Nat → Nat → Nat} {K n : Nat} {qs : List Nat} (hq : qs.length = sz n (K + 1)) : rowP (upP P K qs) n (K + 1) = qs := by
  apply List.ext_getElem (by rw [rowP_len, hq])
  intro j h1 h2
  rw [rowP_get]
  unfold upP
  rw [if_pos rfl, getD_in h2]
theorem lvl_up (l : List (BitVec 64)) {K j : Nat} (h : j < sz l.length (K + 1)) : (lvl l (K + 1)).getD j 0#64 = runL (grp (lvl l K) j) := by
  have hl : j < (lvl l (K + 1)).length := by rw [lvl_len]; exact h
  rw [getD_in hl]
  exact par_get _ _ hl
theorem run_min2 {P : Program} (w : World) (ts : Array TypeId) (t : TypeId) (a b : Int) :
    (Builtin.min_ ts t #[.int .i64 a, .int .i64 b]).run P w = .ok (.int .i64 (min a b)) w := by
  have e : (if b < a then b else a) = min a b := by split <;> omega
  have : (Builtin.min_ ts t #[.int .i64 a, .int .i64 b]).run P w = .ok (.int .i64 (if b < a then b else a)) w := rfl
  rw [this, e]
theorem kids_nodes {w : World} {l : List (BitVec 64)} {P : Nat → Nat → Nat} {K j : Nat} (h : TreeTo w l P K) (hj : j < sz l.length (K + 1)) :
    ∀ i (a : i < (kidsL P l.length K j).length) (b : i < (grp (lvl l K) j).length), NodeS w (kidsL P l.length K j)[i] (grp (lvl l K) j)[i] := by
  intro i a b
  have hi : i < kidN l.length K j := by rw [kidsL_len] at a; exact a
  have h1 := (h K (4 * j + i) (Nat.le_refl _) (kid_lt hi)).1
  rw [getD_in (by rw [lvl_len]; exact kid_lt hi)] at h1
  rw [grp_get b]
  simp only [kidsL, List.getElem_map, List.getElem_range]
  exact h1
theorem SliceAt.cap {α : Type} {enc : α → Value} {w : World} {a : Option Addr} {n c : Nat} {l : List α} (h : SliceAt enc w (.slice a n c) l) : n = l.length ∧ n ≤ c := by
  obtain ⟨ad, cap, hv, hca, _⟩ := h
  injection hv with h1 h2 h3
  subst h2 h3
  exact ⟨rfl, hca⟩
def lenOf : Value → Nat
  | .slice _ n _ => n
  | _ => 0
def BuildEnd (W : World) (l : List (BitVec 64)) (e : Ending) (w' : World) : Prop :=
  ∃ P, e = .returned (treeV l.length P) ∧ TreeAt w' l P ∧ Below W.heap.size W w'

set_option maxRecDepth 100000 in
set_option maxHeartbeats 4000000 in
theorem build_any (v : Value) (l : List (BitVec 64)) (w : World) (hl : l.length ≤ 100000) (h : SliceAt encU w v l) :
    Calls Try.prog 13 #[v] w (BuildEnd w l) := by
  obtain ⟨i0, hi, hz0, hz1, hz2⟩ := info_parts infoP
  obtain ⟨ad, cap, rfl⟩ := h.shape
  have HS := Lib.hid h
  have HXA : Hid (Ext w (w.alloc (.cells #[.int .i64 0, .int .i64 0, .pointer none] 29))) := Ext.alloc _ _
  have HBA : Hid (BoxAt (w.alloc (.cells #[.int .i64 0, .int .i64 0, .pointer none] 29)) w.heap.size #[.int .i64 0, .int .i64 0, .pointer none] 29) := BoxAt.new _ _ _
  clear h
  go_enter Try.func13, Try.ntmps13
  go_wp2_with fail
  generalize w.alloc (.cells #[.int .i64 0, .int .i64 0, .pointer none] 29) = wa at *
  have hsa := HXA.out.size
  go_loopw [3, 11] (fun vo x wr => ∃ (k : Nat) (ps : List Nat), k ≤ l.length ∧ x = .int .i64 k ∧ ps.length = k ∧ Hid (OwnG encP 27 wr wa.heap.size vo ps) ∧ Hid (Leaves wr ps (l.take k)) ∧ Below wa.heap.size wa wr) (fun _ x _ => l.length - (intOf x).toNat)
  case atStart => exact ⟨0, [], Nat.zero_le _, rfl, rfl, Lib.hid OwnG.nil, Lib.hid (fun i a b => absurd a (by simp)), Below.refl _ _⟩
  case round =>
    obtain ⟨k, ps, hk, rfl, hpl, HO, HLV, hx⟩ := hrel
    have HX : Hid (Ext wa wr) := hx
    by_cases hlt : k < l.length
    · have hin : (k : Int) < (l.length : Int) := by omega
      obtain ⟨b, off, rfl, hb, hc⟩ := (HS.out.ext (HXA.out.trans hx)).get k hlt
      have hll : (l.take k).length = k := by rw [List.length_take]; omega
      have HT : Hid (l.take (k + 1) = l.take k ++ [l[k]]) := by
        show _ = _
        rw [List.take_add_one, List.getElem?_eq_getElem hlt]; rfl
      generalize l[k] = x at *
      have hsx := hx.size
      have HPL := Lib.hid hpl
      clear hx hpl
      go_wp2_with (at_builtin; refine Classical.byContradiction (fun hN => ?_))
      refine hN ?_
      clear hN
      have e1 : Ext wr (wr.alloc (.cells #[encU x, .slice none 0 0] 60)) := Ext.alloc _ _
      have e2 : Ext (wr.alloc (.cells #[encU x, .slice none 0 0] 60)) ((wr.alloc (.cells #[encU x, .slice none 0 0] 60)).alloc (.cells #[encP wr.heap.size] 27)) := Ext.alloc _ _
      have hbn : BoxAt ((wr.alloc (.cells #[encU x, .slice none 0 0] 60)).alloc (.cells #[encP wr.heap.size] 27)) wr.heap.size #[encU x, .slice none 0 0] 60 := (BoxAt.new _ _ _).ext e2
      have hown := (HO.out.ext e1).ext e2
      have hcn : ((wr.alloc (.cells #[encU x, .slice none 0 0] 60)).alloc (.cells #[encP wr.heap.size] 27)).cell? ⟨wr.heap.size + 1, 0, none⟩ = some (encP wr.heap.size) := by
        rw [show wr.heap.size + 1 = (wr.alloc (.cells #[encU x, .slice none 0 0] 60)).heap.size by simp]; exact cell_new1 _ _ _
      refine wpList_append_one rfl _ _ _ rfl wa.heap.size 27 i0 (.pointer none) 8 Try.underlying58 hi hz0 hz1 hz2 rfl _ _ _ rfl hown _ (encP wr.heap.size) rfl rfl hcn (by rw [HPL.out]; unfold maxLen; omega) (by rw [HPL.out]; omega) (by simp; omega) ?_
      intro v2 w2 ho2 hg2 _
      have HO2 : Hid (OwnG encP 27 w2 wa.heap.size v2 (ps ++ [wr.heap.size])) := OwnG.snoc (enc := encP) (x := wr.heap.size) ho2
      have hx2 : Below wa.heap.size wa w2 := (HX.out.trans (e1.trans e2)).grown hg2 (by simp; omega) (fun q hq => (hown.lt q hq).1)
      have HL2 : Hid (Leaves w2 (ps ++ [wr.heap.size]) (l.take (k + 1))) := by
        intro i a b
        have hkeep : ∀ {q : Nat} {cs : Array Value}, BoxAt ((wr.alloc (.cells #[encU x, .slice none 0 0] 60)).alloc (.cells #[encP wr.heap.size] 27)) q cs 60 → BoxAt w2 q cs 60 := fun hb => hb.grown hg2 (fun hh => hown.not_box hb (by decide) hh.symm)
        rcases Nat.lt_or_ge i ps.length with hi' | hi'
        · have b' : i < (l.take k).length := by rw [hll, ← HPL.out]; exact hi'
          have := HLV.out i hi' b'
          simp only [HT.out] at b ⊢
          rw [List.getElem_append_left hi', List.getElem_append_left b']
          exact hkeep ((this.ext e1).ext e2)
        · have hik : i = k := by simp at a; have := HPL.out; omega
          subst hik
          simp only [HT.out] at b ⊢
          rw [List.getElem_append_right hi', List.getElem_append_right (by rw [hll]; exact Nat.le_refl _)]
          simp only [List.getElem_singleton]
          exact hkeep hbn
      clear ho2 hg2
      go_wp2
      go_roundw
      case rel => exact ⟨k + 1, ps ++ [wr.heap.size], by omega, by go_num, by simp [HPL.out], HO2, HL2, hx2⟩
      case measure => simp [intOf]; omega
    · have hkl : k = l.length := by omega
      subst hkl
      have hin : ¬ ((l.length : Int) < (l.length : Int)) := by omega
      rw [List.take_length] at HLV
      have HT0 := Lib.hid (tree_leaves HLV.out hpl)
      have hr0 : rowP (fun _ j => ps.getD j 0) l.length 0 = ps := by
        apply List.ext_getElem (by rw [rowP_len, sz, hpl])
        intro j h1 h2
        rw [rowP_get, getD_in h2]
      have HO0 : Hid (OwnG encP 27 wr wa.heap.size u3 (rowP (fun _ j => ps.getD j 0) l.length 0)) := by rw [hr0]; exact HO
      have e1 : Ext wr (wr.alloc (.cells #[.int .i64 l.length, .int .i64 0, .pointer none] 29)) := Ext.alloc _ _
      have HBT : Hid (BoxAt (wr.alloc (.cells #[.int .i64 l.length, .int .i64 0, .pointer none] 29)) wr.heap.size #[.int .i64 l.length, .int .i64 0, .pointer none] 29) := BoxAt.new _ _ _
      have HX2 : Hid (Ext wa (wr.alloc (.cells #[.int .i64 l.length, .int .i64 0, .pointer none] 29))) := HX.out.trans e1
      have HT2 := Lib.hid (HT0.out.ext e1)
      have HO2 := Lib.hid (HO0.out.ext e1)
      obtain ⟨au, cu, rfl⟩ := HO.out.shape
      rw [hpl] at HO2 ⊢
      clear HO HLV HO0 HT0 hr0 e1 hx
      generalize (fun (_ : Nat) (j : Nat) => ps.getD j 0) = P0 at *
      have hgT : wa.heap.size ≤ wr.heap.size := HX.out.size
      go_wp2_with fail
      generalize wr.alloc (.cells #[.int .i64 l.length, .int .i64 0, .pointer none] 29) = ws at *
      generalize wr.heap.size = gT at *
      go_loopw [3] (fun vl wr => ∃ (K : Nat) (P : Nat → Nat → Nat), K ≤ hgt l.length ∧ Hid (TreeTo wr l P K) ∧ Hid (OwnG encP 27 wr wa.heap.size vl (rowP P l.length K)) ∧ Hid (BoxAt wr gT #[.int .i64 l.length, .int .i64 K, .pointer none] 29) ∧ Hid (Ext wa wr)) (fun vl _ => lenOf vl)
      case atStart => exact ⟨0, P0, Nat.zero_le _, HT2, HO2, HBT, HX2⟩
      case round =>
        obtain ⟨K, P, hK, HT, HO, HB, HX3⟩ := hrel
        generalize wr = wo at *
        obtain ⟨av, cv, rfl⟩ := HO.out.shape
        rw [rowP_len] at HO ⊢
        have hszl : sz l.length K ≤ 100000 := Nat.le_trans (sz_le _ _) hl
        have hgs := HB.out.lt
        have hKb : K ≤ 100000 := Nat.le_trans hK (by have := hgt_le (n := l.length) (k := 10) (by omega); omega)
        have hc1 := HB.out.cell 1 (v := .int .i64 K) rfl
        have hf1 := HB.out.free 1
        by_cases h1 : 1 < sz l.length K
        · have hin : (1 : Int) < (sz l.length K : Int) := by omega
          have hK1 : K < hgt l.length := by
            rcases Nat.lt_or_eq_of_le hK with h | h
            · exact h
            · rw [h] at h1; have := sz_hgt l.length; omega
          have hsn : sz l.length (K + 1) = (sz l.length K + 3) / 4 := rfl
          generalize hm : sz l.length K = m at *
          generalize hm2 : sz l.length (K + 1) = m2 at *
          have HM := Lib.hid hm
          have HM2 := Lib.hid hm2
          clear hm hm2
          go_wp2_with fail
          go_loopw [7, 8] (fun va x wr => ∃ (j : Nat) (qs : List Nat), j ≤ m2 ∧ x = .int .i64 (4 * (j : Int)) ∧ qs.length = j ∧ Hid (OwnG encP 27 wr wo.heap.size va qs) ∧ Hid (NodesUp wr wo l P K qs) ∧ Hid (Ext wo wr)) (fun _ x _ => m + 4 - (intOf x).toNat)
          case atStart => exact ⟨0, [], Nat.zero_le _, rfl, rfl, Lib.hid OwnG.nil, Lib.hid (fun m a => absurd a (by simp)), Lib.hid (Ext.refl _)⟩
          case round =>
            obtain ⟨j, qs, hj, rfl, hql, HQ, HU, HX4⟩ := hrel
            by_cases hlt : 4 * j < m
            · have hin2 : 4 * (j : Int) < (m : Int) := by omega
              obtain ⟨hi_, hhi⟩ : ∃ hi_, min (4 * j + 4) m = hi_ := ⟨_, rfl⟩
              have hMin := fun (w : World) (ts : Array TypeId) (t : TypeId) => run_min2 (P := Try.prog) w ts t (4 * (j : Int) + 4) (m : Int)
              rw [show min (4 * (j : Int) + 4) (m : Int) = (hi_ : Int) by omega] at hMin
              have hb1 : 4 * j ≤ hi_ := by omega
              have hb2 : hi_ ≤ m := by omega
              have n1 : (4 * (j : Int)).toNat = 4 * j := by omega
              have hcv : hi_ ≤ cv := Nat.le_trans hb2 (HO.out.slice).cap.2
              have hj2 : j < m2 := by omega
              have hj3 : j < sz l.length (K + 1) := by rw [HM2.out]; exact hj2
              obtain ⟨A, hA, HC⟩ := (HO.out.slice).cutA (4 * j) hi_ hb1 (by rw [rowP_len, HM.out]; exact hb2)
              have HCE : Hid ((rowP P l.length K).drop (4 * j) |>.take (hi_ - 4 * j) |>.length |> fun _ => ((rowP P l.length K).drop (4 * j)).take (hi_ - 4 * j) = kidsL P l.length K j) := by
                show _ = _; rw [← hhi, ← HM.out]; exact rowP_cut P l.length K j
              have HCE2 : ((rowP P l.length K).drop (4 * j)).take (hi_ - 4 * j) = kidsL P l.length K j := HCE.out
              rw [HCE2] at HC
              have HC := Lib.hid HC
              have HKN := Lib.hid (kids_nodes (HT.out.ext HX4.out) hj3)
              have HLU := Lib.hid (lvl_up l hj3)
              have hkl : (kidsL P l.length K j).length ≤ 100000 := by rw [kidsL_len]; unfold kidN; omega
              have hkg : (kidsL P l.length K j).length = (grp (lvl l K) j).length := by rw [kidsL_len, grp_len]
              clear hhi HCE HCE2 hj3
              go_wp2_with fail
              go_at_call 29
              refine (join_any _ (kidsL P l.length K j) (grp (lvl l K) j) _ hkl (SliceAt.ext HC.out HX4.out) hkg HKN.out).mono ?_
              rintro e w5 ⟨q, rfl, hq, hbq, hb5⟩
              unfold encP
              have HX5 : Hid (Ext wr w5) := hb5
              have HBQ := Lib.hid hbq
              obtain ⟨aq, cq, rfl⟩ := HQ.out.shape
              rw [hql] at HQ ⊢
              have HQL := Lib.hid hql
              have hrq : wo.heap.size ≤ w5.heap.size := (HX4.out.trans HX5.out).size
              clear hb5 hbq hql
              go_wp2_with (at_builtin; refine Classical.byContradiction (fun hN => ?_))
              refine hN ?_
              clear hN
              have e1 : Ext w5 (w5.alloc (.cells #[encP q] 27)) := Ext.alloc _ _
              have hown := (HQ.out.ext HX5.out).ext e1
              refine wpList_append_one rfl _ _ _ rfl wo.heap.size 27 i0 (.pointer none) 8 Try.underlying58 hi hz0 hz1 hz2 rfl _ _ _ rfl hown _ (encP q) rfl rfl (cell_new1 _ _ _) (by rw [HQL.out]; unfold maxLen; omega) (by rw [HQL.out]; omega) (by simp; omega) ?_
              intro v6 w6 ho6 hg6 _
              have HO6 : Hid (OwnG encP 27 w6 wo.heap.size v6 (qs ++ [q])) := OwnG.snoc (enc := encP) (x := q) ho6
              have HX6 : Hid (Ext wo w6) := ((HX4.out.trans HX5.out).trans e1).grown hg6 (by simp; omega) (fun q hq => (hown.lt q hq).1)
              have HU6 : Hid (NodesUp w6 wo l P K (qs ++ [q])) := by
                intro t a
                have hkeep : ∀ {q : Nat} {cs : Array Value}, BoxAt (w5.alloc (.cells #[encP q] 27)) q cs 60 → True := fun _ => trivial
                rcases Nat.lt_or_ge t qs.length with hi' | hi'
                · obtain ⟨kv, hb, hs⟩ := HU.out t hi'
                  rw [List.getElem_append_left hi']
                  have hb2 := (hb.ext HX5.out).ext e1
                  exact ⟨kv, hb2.grown hg6 (fun hh => hown.not_box hb2 (by decide) hh.symm), hs⟩
                · have hik : t = j := by simp at a; have := HQL.out; omega
                  subst hik
                  rw [List.getElem_append_right hi']
                  simp only [List.getElem_singleton]
                  have hb2 := HBQ.out.ext e1
                  refine ⟨_, ?_, HC.out⟩
                  rw [HLU.out]
                  exact hb2.grown hg6 (fun hh => hown.not_box hb2 (by decide) hh.symm)
              clear ho6 hg6
              go_wp2
              go_roundw
              case rel => exact ⟨j + 1, qs ++ [q], by omega, by congr 1, by simp [HQL.out], HO6, HU6, HX6⟩
              case measure => show m + 4 - (intOf (.int .i64 (4 * (j : Int) + 4))).toNat < m + 4 - (intOf (.int .i64 (4 * (j : Int)))).toNat; unfold intOf; simp only; omega
            · have hjm : j = m2 := by omega
              subst hjm
              have hin2 : ¬ (4 * (j : Int) < (m : Int)) := by omega
              have hc1 := (HB.out.ext HX4.out).cell 1 (v := .int .i64 K) rfl
              have hf1 := (HB.out.ext HX4.out).free 1
              have hgs := (HB.out.ext HX4.out).lt
              have hqs : qs.length = sz l.length (K + 1) := by rw [hql, HM2.out]
              have HT5 := Lib.hid ((tree_up HT.out HX4.out HU.out hqs).set (x := .int .i64 ((K : Int) + 1)) hc1 (foreign_int _))
              have HO5 : Hid (OwnG encP 27 (wr.setCell ⟨gT, 1, none⟩ (.int .i64 ((K : Int) + 1))) wa.heap.size u7 (rowP (upP P K qs) l.length (K + 1))) := by
                show OwnG _ _ _ _ _ _
                rw [rowP_up hqs]
                exact (HQ.out.lower HX3.out.size).off (HQ.out.not_box (HB.out.ext HX4.out) (by decide)) _ _
              have HB5 : Hid (BoxAt (wr.setCell ⟨gT, 1, none⟩ (.int .i64 ((K : Int) + 1))) gT #[.int .i64 l.length, .int .i64 ((K : Int) + 1), .pointer none] 29) := (HB.out.ext HX4.out).set 1 _
              have HX5 : Hid (Ext wa (wr.setCell ⟨gT, 1, none⟩ (.int .i64 ((K : Int) + 1)))) := bel_set (HX3.out.trans HX4.out) hgT _ _
              obtain ⟨aq, cq, rfl⟩ := HQ.out.shape
              rw [hql] at HO5 ⊢
              clear HQ HU hql hqs
              go_wp2_with fail
              go_roundw
              case rel => exact ⟨K + 1, upP P K qs, hK1, HT5, HO5, HB5, HX5⟩
              case measure => show j < m; omega
        · have hin : ¬ ((1 : Int) < (sz l.length K : Int)) := by omega
          have hKh : K = hgt l.length := by
            rcases Nat.lt_or_eq_of_le hK with h | h
            · have := sz_below h; omega
            · exact h
          have hc0 := HB.out.cell 0 (v := .int .i64 l.length) rfl
          have hc2 := HB.out.cell 2 (v := .pointer none) rfl
          have hf2 := HB.out.free 2
          have hbz := (HBA.out.ext HX3.out)
          have hd0 := hbz.cell 0 (v := .int .i64 0) rfl
          have hd1 := hbz.cell 1 (v := .int .i64 0) rfl
          have hd2 := hbz.cell 2 (v := .pointer none) rfl
          have hg0 := hbz.free 0
          have hg1 := hbz.free 1
          have hg2 := hbz.free 2
          have hbl := hbz.lt
          have hne : gT ≠ w.heap.size := fun e => by
            have h8 := HB.out
            have h9 := HBA.out.lt
            omega
          have hne2 : w.heap.size ≠ gT := fun e => hne e.symm
          clear hbz
          by_cases hl0 : l.length = 0
          · have hs0 : sz l.length K = 0 := by have := sz_le l.length K; omega
            rw [hs0] at hin ⊢
            have HK := Lib.hid hKh
            have HL0 := Lib.hid hl0
            have hT5 : TreeTo (((wo.setCell ⟨w.heap.size, 0, none⟩ (.int .i64 0)).setCell ⟨w.heap.size, 1, none⟩ (.int .i64 (hgt 0))).setCell ⟨w.heap.size, 2, none⟩ (.pointer none)) l P K :=
              ((HT.out.set hd0 (foreign_int _)).set (by rw [set_off (by decide)]; exact hd1) (foreign_int _)).set (by rw [set_off (by decide), set_off (by decide)]; exact hd2) foreign_nil
            have hx5 : Ext w (((wo.setCell ⟨w.heap.size, 0, none⟩ (.int .i64 0)).setCell ⟨w.heap.size, 1, none⟩ (.int .i64 (hgt 0))).setCell ⟨w.heap.size, 2, none⟩ (.pointer none)) :=
              bel_set (bel_set (bel_set (HXA.out.trans HX3.out) (Nat.le_refl _) _ _) (Nat.le_refl _) _ _) (Nat.le_refl _) _ _
            have HT5 := Lib.hid hT5
            have HX5 := Lib.hid hx5
            clear hT5 hx5
            go_wp2_with fail
            refine bodyPost_ret (v := treeV l.length P) ?_ rfl ⟨P, rfl, ?_, HX5.out⟩
            · rw [HL0.out]
              unfold treeV topP
              simp only [results, Try.results13]
              go_simp
            · unfold TreeAt; rw [← HK.out]; exact HT5.out
          · have hs1 : sz l.length K = 1 := by have := sz_pos (n := l.length) (by omega) K; omega
            have hlr : 0 < (rowP P l.length K).length := by rw [rowP_len, hs1]; omega
            obtain ⟨g, c9, hv9, hg1', hg2'⟩ := HO.out.form hlr
            rw [rowP_len] at hv9
            have hc9 := hv9 ▸ HO.out
            injection hv9 with e1 e2 e3
            subst e1 e3
            have hcr := HO.out.at (rowP_len ..).symm (k := 0) hlr
            rw [rowP_get] at hcr
            unfold encP at hcr
            rw [hs1] at hin ⊢
            clear hc9 e2
            have HK := Lib.hid hKh
            have HL0 := Lib.hid hl0
            have hT5 : TreeTo ((((wo.setCell ⟨gT, 2, none⟩ (.pointer (some ⟨P K 0, 0, none⟩))).setCell ⟨w.heap.size, 0, none⟩ (.int .i64 l.length)).setCell ⟨w.heap.size, 1, none⟩ (.int .i64 (hgt l.length))).setCell ⟨w.heap.size, 2, none⟩ (.pointer (some ⟨P K 0, 0, none⟩))) l P K :=
              (((HT.out.set hc2 foreign_nil).set (by rw [set_block hne]; exact hd0) (foreign_int _)).set (by rw [set_off (by decide), set_block hne]; exact hd1) (foreign_int _)).set (by rw [set_off (by decide), set_off (by decide), set_block hne]; exact hd2) foreign_nil
            have hx5 : Ext w ((((wo.setCell ⟨gT, 2, none⟩ (.pointer (some ⟨P K 0, 0, none⟩))).setCell ⟨w.heap.size, 0, none⟩ (.int .i64 l.length)).setCell ⟨w.heap.size, 1, none⟩ (.int .i64 (hgt l.length))).setCell ⟨w.heap.size, 2, none⟩ (.pointer (some ⟨P K 0, 0, none⟩))) :=
              bel_set (bel_set (bel_set (bel_set (HXA.out.trans HX3.out) (by omega) _ _) (Nat.le_refl _) _ _) (Nat.le_refl _) _ _) (Nat.le_refl _) _ _
            rw [hKh] at hT5 hx5
            have HT5 := Lib.hid hT5
            have HX5 := Lib.hid hx5
            clear hT5 hx5
            go_wp2_with fail
            refine bodyPost_ret (v := treeV l.length P) ?_ rfl ⟨P, rfl, HT5.out, HX5.out⟩
            unfold treeV topP encP
            rw [if_neg HL0.out]
            simp only [results, Try.results13]
            go_simp
end Go.Proofs.Ytdhlikjdcnfkpaa
