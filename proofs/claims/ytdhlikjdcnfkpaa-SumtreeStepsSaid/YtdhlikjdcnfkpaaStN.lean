/-
  Chapter 26 (sumtree): Set.
-/
import Derived.Test.YtdhlikjdcnfkpaaStM
namespace Go.Proofs.Ytdhlikjdcnfkpaa
open Go.RowKit
set_option linter.unusedVariables false

theorem grp_set_on {l : List (BitVec 64)} {p : Nat} {x : BitVec 64} : grp (l.set p x) (p / 4) = (grp l (p / 4)).set (p % 4) x := by
  have hlen : (grp (l.set p x) (p / 4)).length = (grp l (p / 4)).length := by simp [grp]
  apply List.ext_getElem (by rw [hlen, List.length_set])
  intro t h1 h2
  have h3 : t < (grp l (p / 4)).length := by rw [← hlen]; exact h1
  have ht : t < 4 := by simp [grp] at h3; omega
  rw [grp_get h1, List.getElem_set, List.getElem_set, grp_get h3]
  by_cases h : p % 4 = t
  · rw [if_pos h, if_pos (by omega)]
  · rw [if_neg h, if_neg (by omega)]
def upN (N : Nat → Nat) (k q : Nat) : Nat → Nat := fun m => if m = k + 1 then q else N m
theorem upN_on (N : Nat → Nat) (k q : Nat) : upN N k q (k + 1) = q := if_pos rfl
theorem upN_off (N : Nat → Nat) {k q m : Nat} (h : m ≠ k + 1) : upN N k q m = N m := if_neg h
def PKids (w : World) (l : List (BitVec 64)) (P : Nat → Nat → Nat) (i B : Nat) (N : Nat → Nat) : Nat → Prop
  | 0 => w.cell? ⟨N 0, 1, none⟩ = some (.slice none 0 0)
  | m + 1 => ∃ v, w.cell? ⟨N (m + 1), 1, none⟩ = some v ∧ OwnG encP 27 w B v ((kidsL P l.length m (i / 4 ^ (m + 1))).set (i / 4 ^ m % 4) (N m))
/-- the new nodes up to level k -/
def PathAt (w : World) (l : List (BitVec 64)) (P : Nat → Nat → Nat) (i : Nat) (x : BitVec 64) (B : Nat) (N : Nat → Nat) (k : Nat) : Prop :=
  ∀ m, m ≤ k → B ≤ N m ∧ NodeS w (N m) (setV l i x m) ∧ PKids w l P i B N m
theorem PathAt.ext {w w' : World} {l : List (BitVec 64)} {P : Nat → Nat → Nat} {i B k : Nat} {x : BitVec 64} {N : Nat → Nat} (h : PathAt w l P i x B N k) (e : Ext w w') : PathAt w' l P i x B N k := by
  intro m hm
  obtain ⟨h1, h2, h3⟩ := h m hm
  refine ⟨h1, h2.ext e, ?_⟩
  cases m with
  | zero => exact (e.cell _ _ h2.1).trans h3
  | succ m =>
    obtain ⟨v, h4, h5⟩ := h3
    exact ⟨v, (e.cell _ _ h2.1).trans h4, h5.ext e⟩
theorem PathAt.lower {w : World} {l : List (BitVec 64)} {P : Nat → Nat → Nat} {i B B' k : Nat} {x : BitVec 64} {N : Nat → Nat} (h : PathAt w l P i x B N k) (hb : B' ≤ B) : PathAt w l P i x B' N k := by
  intro m hm
  obtain ⟨h1, h2, h3⟩ := h m hm
  refine ⟨Nat.le_trans hb h1, h2, ?_⟩
  cases m with
  | zero => exact h3
  | succ m =>
    obtain ⟨v, h4, h5⟩ := h3
    exact ⟨v, h4, h5.lower hb⟩
theorem PathAt.off {w : World} {l : List (BitVec 64)} {P : Nat → Nat → Nat} {i B k : Nat} {x : BitVec 64} {N : Nat → Nat} (h : PathAt w l P i x B N k) {g : Nat} (hg : g < B) (o : Nat) (y : Value) : PathAt (w.setCell ⟨g, o, none⟩ y) l P i x B N k := by
  intro m hm
  obtain ⟨h1, ⟨h2a, h2b, hpl⟩, h3⟩ := h m hm
  have hne : g ≠ N m := by omega
  refine ⟨h1, ⟨by simpa using h2a, by rw [set_block hne]; exact h2b, hpl.set _ _ _⟩, ?_⟩
  cases m with
  | zero => show _ = _; rw [set_block hne]; exact h3
  | succ m =>
    obtain ⟨v, h4, h5⟩ := h3
    refine ⟨v, by rw [set_block hne]; exact h4, h5.off ?_ _ _⟩
    intro e
    have := (h5.lt g e).1
    omega
theorem PathAt.up {w : World} {l : List (BitVec 64)} {P : Nat → Nat → Nat} {i B k q : Nat} {x : BitVec 64} {N : Nat → Nat} {kv : Value} (h : PathAt w l P i x B N k) (hq : B ≤ q) (hb : BoxAt w q #[encU (setV l i x (k + 1)), kv] 60)
    (ho : OwnG encP 27 w B kv ((kidsL P l.length k (i / 4 ^ (k + 1))).set (i / 4 ^ k % 4) (N k))) : PathAt w l P i x B (upN N k q) (k + 1) := by
  intro m hm
  by_cases hmk : m = k + 1
  · subst hmk
    refine ⟨by rw [upN_on]; exact hq, by rw [upN_on]; exact ⟨hb.lt, hb.cell 0 rfl, hb.plain⟩, kv, by rw [upN_on]; exact hb.cell 1 rfl, ?_⟩
    rw [upN_off N (show k ≠ k + 1 by omega)]; exact ho
  · obtain ⟨h1, h2, h3⟩ := h m (by omega)
    refine ⟨by rw [upN_off N hmk]; exact h1, by rw [upN_off N hmk]; exact h2, ?_⟩
    cases m with
    | zero => show _ = _; rw [upN_off N hmk]; exact h3
    | succ m =>
      obtain ⟨v, h4, h5⟩ := h3
      refine ⟨v, by rw [upN_off N hmk]; exact h4, ?_⟩
      rw [upN_off N (show m ≠ k + 1 by omega)]; exact h5
def newP (P : Nat → Nat → Nat) (i : Nat) (N : Nat → Nat) : Nat → Nat → Nat := fun k j => if j = i / 4 ^ k then N k else P k j
theorem kids_new (P : Nat → Nat → Nat) (n i m : Nat) (N : Nat → Nat) : kidsL (newP P i N) n m (i / 4 ^ (m + 1)) = (kidsL P n m (i / 4 ^ (m + 1))).set (i / 4 ^ m % 4) (N m) := by
  apply List.ext_getElem (by simp [kidsL])
  intro t h1 h2
  rw [List.getElem_set]
  simp only [kidsL, List.getElem_map, List.getElem_range, newP]
  have hw := way_next i m
  by_cases h : i / 4 ^ m % 4 = t
  · rw [if_pos h, if_pos (by omega)]
  · rw [if_neg h, if_neg (by omega)]
theorem kids_old (P : Nat → Nat → Nat) {n i m j : Nat} (N : Nat → Nat) (hj : j ≠ i / 4 ^ (m + 1)) : kidsL (newP P i N) n m j = kidsL P n m j := by
  unfold kidsL
  apply List.map_congr_left
  intro t ht
  rw [List.mem_range] at ht
  unfold kidN at ht
  unfold newP
  rw [if_neg]
  intro e
  apply hj
  rw [up_step]
  omega
theorem tree_new {w : World} {l : List (BitVec 64)} {P : Nat → Nat → Nat} {i B : Nat} {x : BitVec 64} {N : Nat → Nat} (ht : TreeAt w l P) (hi : i < l.length) (hp : PathAt w l P i x B N (hgt l.length)) : TreeAt w (l.set i x) (newP P i N) := by
  intro k j hk hj
  rw [List.length_set] at hk hj ⊢
  have hlv : (lvl (l.set i x) k).getD j 0#64 = if j = i / 4 ^ k then setV l i x k else (lvl l k).getD j 0#64 := by
    rw [lvl_set]
    have hjl : j < (lvl l k).length := by rw [lvl_len]; exact hj
    rw [getD_in (by rw [List.length_set]; exact hjl), List.getElem_set]
    by_cases h : i / 4 ^ k = j
    · rw [if_pos h, if_pos h.symm]
    · rw [if_neg h, if_neg (fun e => h e.symm), getD_in hjl]
  by_cases hjp : j = i / 4 ^ k
  · obtain ⟨h1, h2, h3⟩ := hp k hk
    rw [hlv, if_pos hjp]
    have e : newP P i N k j = N k := if_pos hjp
    rw [e]
    refine ⟨h2, ?_⟩
    cases k with
    | zero => show _ = _; rw [e]; exact h3
    | succ k =>
      obtain ⟨v, h4, h5⟩ := h3
      refine ⟨v, by rw [e]; exact h4, ?_⟩
      rw [hjp, kids_new]
      exact h5.slice
  · obtain ⟨h1, h2⟩ := ht k j hk hj
    rw [hlv, if_neg hjp]
    have e : newP P i N k j = P k j := if_neg hjp
    rw [e]
    refine ⟨h1, ?_⟩
    cases k with
    | zero => show _ = _; rw [e]; exact h2
    | succ k =>
      obtain ⟨v, h4, h5⟩ := h2
      refine ⟨v, by rw [e]; exact h4, ?_⟩
      rw [kids_old P N hjp]
      exact h5

set_option maxRecDepth 100000 in
set_option maxHeartbeats 2000000 in
theorem set_any (l : List (BitVec 64)) (P : Nat → Nat → Nat) (i : Nat) (x : BitVec 64) (hl : l.length ≤ 100000) (hi : i < l.length) : ∀ (k : Nat) (w : World), k ≤ hgt l.length → TreeAt w l P →
    Calls Try.prog 38 #[encP (P k (i / 4 ^ k)), .int .i64 k, .int .i64 i, encU x] w fun e w' => ∃ N, e = .returned (encP (N k)) ∧ PathAt w' l P i x w.heap.size N k ∧ Below w.heap.size w w'
  | 0, w, hk, ht => by
    have HX : Hid (Ext w (w.alloc (.cells #[encU x, .slice none 0 0] 60))) := Ext.alloc _ _
    have HB : Hid (BoxAt (w.alloc (.cells #[encU x, .slice none 0 0] 60)) w.heap.size #[encU x, .slice none 0 0] 60) := BoxAt.new _ _ _
    unfold encP
    generalize P 0 (i / 4 ^ 0) = p
    clear ht
    go_enter Try.func38, Try.ntmps38
    go_wp2_with fail
    go_ret
    refine ⟨fun _ => w.heap.size, rfl, fun m hm => ?_, HX.out⟩
    have hm0 : m = 0 := by omega
    subst hm0
    exact ⟨Nat.le_refl _, ⟨HB.out.lt, HB.out.cell 0 rfl, HB.out.plain⟩, HB.out.cell 1 rfl⟩
  | k + 1, w, hk, ht => by
    obtain ⟨j0, hj, hj0, hj1, hj2⟩ := info_parts infoP
    have HT := Lib.hid ht
    have HIH := Lib.hid (set_any l P i x hl hi k)
    have hh := hgt_small hl
    obtain ⟨⟨hp, _⟩, kv, hkv, hks⟩ := ht (k + 1) (i / 4 ^ (k + 1)) hk (up_lt hi (k + 1))
    have HKS := Lib.hid hks
    have HKV : Hid (SliceAt encP w kv (kidsL P l.length k (i / 4 ^ (k + 1)))) := hks
    obtain ⟨ak, ck, rfl⟩ := hks.shape
    have hkl : (kidsL P l.length k (i / 4 ^ (k + 1))).length = kidN l.length k (i / 4 ^ (k + 1)) := kidsL_len _ _ _ _
    have hkn := kid_up (k := k) hi
    have hk4 : kidN l.length k (i / 4 ^ (k + 1)) ≤ 4 := by unfold kidN; omega
    obtain ⟨m, hm⟩ : ∃ m, kidN l.length k (i / 4 ^ (k + 1)) = m := ⟨_, rfl⟩
    obtain ⟨kid, hkid⟩ : ∃ t, i / 4 ^ k % 4 = t := ⟨_, rfl⟩
    have hwk := way_kid i k
    rw [hkid] at hwk hkn
    rw [hkl, hm] at hkv HKS
    rw [hm] at hkn hk4 hkl
    have HKL := Lib.hid hkl
    have HKID := Lib.hid hkid
    have hk9 : kid ≤ 3 := by omega
    have hkm : (kid : Int) < (m : Int) := by omega
    unfold encP
    generalize hP1 : P (k + 1) (i / 4 ^ (k + 1)) = p at *
    clear ht hks hkl hkid hm hP1
    go_enter Try.func38, Try.ntmps38
    go_wp2_with (at_builtin; refine Classical.byContradiction (fun hN => ?_))
    refine hN ?_
    clear hN
    have hlit : OwnG encP 27 (w.alloc (.cells #[] 27)) w.heap.size (.slice (some ⟨w.heap.size, 0, none⟩) 0 0) [] := OwnG.lit (enc := encP) w [] 27 w.heap.size (Nat.le_refl _) (Nat.zero_le _) #[] rfl
    have hxa : Ext w (w.alloc (.cells #[] 27)) := Ext.alloc _ _
    refine wpList_append_slice (enc := encP) (fun _ => rfl) rfl _ _ 58 rfl w.heap.size 27 j0 (.pointer none) 8 Try.underlying58 hj hj0 hj1 hj2 rfl _ _ _ rfl hlit _ (kidsL P l.length k (i / 4 ^ (k + 1))) (by rw [HKL.out]; rfl) (HKV.out.ext hxa) (by rw [HKL.out]; unfold maxLen; simp only [List.length_nil]; omega) (by rw [HKL.out]; simp only [List.length_nil]; omega) hxa.size ?_
    intro v1 w1 ho1 hg1
    have HX1 : Hid (Ext w w1) := hxa.grown hg1 hxa.size (fun q hq => (hlit.lt q hq).1)
    replace ho1 := OwnG.app (l := []) ho1
    rw [List.nil_append] at ho1
    obtain ⟨gk, c1, rfl, hgk1, hgk2⟩ := ho1.form (by rw [HKL.out]; omega)
    have HO1 := Lib.hid ho1
    rw [HKL.out] at HO1 ⊢
    have hck := HO1.out.at (HKL.out).symm (k := kid) (by rw [HKL.out]; omega)
    have hge : (kidsL P l.length k (i / 4 ^ (k + 1)))[kid]'(by rw [HKL.out]; omega) = P k (i / 4 ^ k) := by
      simp only [kidsL, List.getElem_map, List.getElem_range]
      rw [← HKID.out, way_next]
    rw [hge] at hck
    have HGK := Lib.hid hgk1
    unfold encP at hck
    have HIH1 := Lib.hid (HIH.out w1 (by omega) (HT.out.ext HX1.out))
    generalize hP2 : P k (i / 4 ^ k) = p2 at *
    clear hlit hxa hg1 ho1 hgk1 hge hP2
    go_wp2_with fail
    go_at_call 38
    refine HIH1.out.mono ?_
    rintro e w2 ⟨N, rfl, hpa, hb2⟩
    have HX2 : Hid (Ext w1 w2) := hb2
    have HPA := Lib.hid hpa
    have hgk3 : gk < w2.heap.size := Nat.lt_of_lt_of_le hgk2 HX2.out.size
    have hck2 := (HX2.out.cell gk kid hgk2).trans hck
    have hfk2 := (HO1.out.ext HX2.out).frees (HKL.out).symm kid
    have HO2 : Hid (OwnG encP 27 (w2.setCell ⟨gk, kid, none⟩ (.pointer (some ⟨N k, 0, none⟩))) w.heap.size (.slice (some ⟨gk, 0, none⟩) m (c1 + 1)) ((kidsL P l.length k (i / 4 ^ (k + 1))).set kid (N k))) := (HO1.out.ext HX2.out).put (HKL.out).symm kid (N k)
    have HPA2 : Hid (PathAt (w2.setCell ⟨gk, kid, none⟩ (.pointer (some ⟨N k, 0, none⟩))) l P i x w1.heap.size N k) := HPA.out.off hgk2 _ _
    have HX3 : Hid (Ext w (w2.setCell ⟨gk, kid, none⟩ (.pointer (some ⟨N k, 0, none⟩)))) := bel_set (HX1.out.trans HX2.out) HGK.out _ _
    unfold encP
    clear hb2 hpa hck
    go_wp2_with fail
    go_at_call 29
    generalize w2.setCell ⟨gk, kid, none⟩ (.pointer (some ⟨N k, 0, none⟩)) = w3 at *
    have hjn : ∀ t (a : t < ((kidsL P l.length k (i / 4 ^ (k + 1))).set kid (N k)).length) (b : t < ((grp (lvl l k) (i / 4 ^ (k + 1))).set kid (setV l i x k)).length), NodeS w3 ((kidsL P l.length k (i / 4 ^ (k + 1))).set kid (N k))[t] ((grp (lvl l k) (i / 4 ^ (k + 1))).set kid (setV l i x k))[t] := by
      intro t a b
      rw [List.getElem_set, List.getElem_set]
      by_cases htk : kid = t
      · rw [if_pos htk, if_pos htk]
        exact (HPA2.out k (Nat.le_refl _)).2.1
      · rw [if_neg htk, if_neg htk]
        rw [List.length_set] at a b
        exact kids_nodes (fun k' j' hk' hj' => (HT.out.ext HX3.out) k' j' (Nat.le_trans hk' (by omega)) hj' : TreeTo w3 l P k) (up_lt hi (k + 1)) t a b
    have HSV : Hid (runL ((grp (lvl l k) (i / 4 ^ (k + 1))).set kid (setV l i x k)) = setV l i x (k + 1)) := by
      show _ = _
      rw [setV, up_step, grp_set_on, ← HKID.out]
    refine (join_any _ ((kidsL P l.length k (i / 4 ^ (k + 1))).set kid (N k)) ((grp (lvl l k) (i / 4 ^ (k + 1))).set kid (setV l i x k)) _ (by rw [List.length_set, HKL.out]; omega) HO2.out.slice (by rw [List.length_set, List.length_set, kidsL_len, grp_len]) hjn).mono ?_
    rintro e w4 ⟨q, rfl, hq, hbq, hb4⟩
    have HX4 : Hid (Ext w3 w4) := hb4
    rw [HSV.out] at hbq
    have HBQ := Lib.hid hbq
    have hq3 : w.heap.size ≤ q := Nat.le_trans HX3.out.size hq
    unfold encP
    clear hb4 hbq hjn
    go_wp2_with fail
    go_ret
    refine ⟨upN N k q, by rw [upN_on]; rfl, ?_, HX3.out.trans HX4.out⟩
    exact PathAt.up ((HPA2.out.lower HX1.out.size).ext HX4.out) hq3 HBQ.out (by rw [HKID.out]; exact HO2.out.ext HX4.out)

def SetEnd (W : World) (l : List (BitVec 64)) (P : Nat → Nat → Nat) (i : Nat) (x : BitVec 64) (e : Ending) (w' : World) : Prop :=
  ∃ N, e = .returned (.tuple #[treeV l.length (newP P i N), .int .i64 0]) ∧ TreeAt w' (l.set i x) (newP P i N) ∧ (∀ k, k ≤ hgt l.length → W.heap.size ≤ N k) ∧ Below W.heap.size W w'
set_option maxRecDepth 100000 in
set_option maxHeartbeats 2000000 in
theorem Set_any (l : List (BitVec 64)) (P : Nat → Nat → Nat) (i : Nat) (x : BitVec 64) (w : World) (hl : l.length ≤ 100000) (hi : i < l.length) (ht : TreeAt w l P) :
    Calls Try.prog 22 #[treeV l.length P, .int .i64 i, encU x] w (SetEnd w l P i x) := by
  have HT := Lib.hid ht
  have e1 : topP l.length P = .pointer (some ⟨P (hgt l.length) 0, 0, none⟩) := by unfold topP encP; rw [if_neg (by omega)]
  have HTV : Hid (treeV l.length P = .agg #[.int .i64 l.length, .int .i64 (hgt l.length), .pointer (some ⟨P (hgt l.length) 0, 0, none⟩)]) := by show _ = _; unfold treeV; rw [e1]
  have HH := has_any l.length P i
  rw [HTV.out] at HH ⊢
  have HH := Lib.hid HH
  have hup := up_top hi
  have HUP := Lib.hid hup
  generalize hp : P (hgt l.length) 0 = p at *
  have HP := Lib.hid hp
  have hh := hgt_small hl
  have a1 : Ext w (w.alloc (.cells #[.int .i64 l.length, .int .i64 (hgt l.length), .pointer (some ⟨p, 0, none⟩)] 29)) := Ext.alloc _ _
  have a2 : Ext (w.alloc (.cells #[.int .i64 l.length, .int .i64 (hgt l.length), .pointer (some ⟨p, 0, none⟩)] 29)) ((w.alloc (.cells #[.int .i64 l.length, .int .i64 (hgt l.length), .pointer (some ⟨p, 0, none⟩)] 29)).alloc (.cells #[.int .i64 0, .int .i64 0, .pointer none] 29)) := Ext.alloc _ _
  have HX : Hid (Ext w ((w.alloc (.cells #[.int .i64 l.length, .int .i64 (hgt l.length), .pointer (some ⟨p, 0, none⟩)] 29)).alloc (.cells #[.int .i64 0, .int .i64 0, .pointer none] 29))) := a1.trans a2
  have HB1 : Hid (BoxAt ((w.alloc (.cells #[.int .i64 l.length, .int .i64 (hgt l.length), .pointer (some ⟨p, 0, none⟩)] 29)).alloc (.cells #[.int .i64 0, .int .i64 0, .pointer none] 29)) w.heap.size #[.int .i64 l.length, .int .i64 (hgt l.length), .pointer (some ⟨p, 0, none⟩)] 29) := (BoxAt.new _ _ _).ext a2
  have HB2 : Hid (BoxAt ((w.alloc (.cells #[.int .i64 l.length, .int .i64 (hgt l.length), .pointer (some ⟨p, 0, none⟩)] 29)).alloc (.cells #[.int .i64 0, .int .i64 0, .pointer none] 29)) (w.heap.size + 1) #[.int .i64 0, .int .i64 0, .pointer none] 29) := by
    have h := BoxAt.new (w.alloc (.cells #[.int .i64 l.length, .int .i64 (hgt l.length), .pointer (some ⟨p, 0, none⟩)] 29)) #[.int .i64 0, .int .i64 0, .pointer none] 29
    rw [show (w.alloc (.cells #[.int .i64 l.length, .int .i64 (hgt l.length), .pointer (some ⟨p, 0, none⟩)] 29)).heap.size = w.heap.size + 1 by simp] at h
    exact h
  clear ht e1 hup hp a1 a2
  go_enter Try.func22, Try.ntmps22
  go_wp2_with fail
  generalize (w.alloc (.cells #[.int .i64 l.length, .int .i64 (hgt l.length), .pointer (some ⟨p, 0, none⟩)] 29)).alloc (.cells #[.int .i64 0, .int .i64 0, .pointer none] 29) = wa at *
  go_at_call 26
  refine (HH.out _ hl).mono ?_
  rintro e w1 ⟨rfl, hb1⟩
  rw [decide_eq_true (show (0 : Int) ≤ (i : Int) ∧ (i : Int) < (l.length : Int) by omega)]
  have HX1 : Hid (Ext wa w1) := hb1
  have HC1 := Lib.hid (HB1.out.ext hb1)
  have HC2 := Lib.hid (HB2.out.ext hb1)
  have hc0 := HC1.out.cell 0 (v := .int .i64 l.length) rfl
  have hc1 := HC1.out.cell 1 (v := .int .i64 (hgt l.length)) rfl
  have hc2 := HC1.out.cell 2 (v := .pointer (some ⟨p, 0, none⟩)) rfl
  have hcl := HC1.out.lt
  clear hb1 HH
  go_wp2_with fail
  go_at_call 38
  have hse := set_any l P i x hl hi (hgt l.length) w1 (Nat.le_refl _) (HT.out.ext (HX.out.trans HX1.out))
  rw [HUP.out, HP.out] at hse
  unfold encP at hse
  refine hse.mono ?_
  rintro e w2 ⟨N, rfl, hpa, hb2⟩
  have HX2 : Hid (Ext w w2) := (HX.out.trans HX1.out).trans hb2
  have HPA := Lib.hid hpa
  have HN : Hid (∀ k, k ≤ hgt l.length → w.heap.size ≤ N k) := fun k hk => Nat.le_trans (HX.out.trans HX1.out).size (hpa k hk).1
  have hg1a : w.heap.size < w1.heap.size := HC1.out.lt
  have hg1b : w.heap.size + 1 < w1.heap.size := HC2.out.lt
  have HD1 := Lib.hid (HC1.out.ext hb2)
  have HD2 := Lib.hid (HC2.out.ext hb2)
  clear hb2 hpa hse hc0 hc1 hc2 hcl
  have hc0 := HD1.out.cell 0 (v := .int .i64 l.length) rfl
  have hc1 := HD1.out.cell 1 (v := .int .i64 (hgt l.length)) rfl
  have hc2 := HD1.out.cell 2 (v := .pointer (some ⟨p, 0, none⟩)) rfl
  have hcl := HD1.out.lt
  have hf2 := HD1.out.free 2
  have hd0 := HD2.out.cell 0 (v := .int .i64 0) rfl
  have hd1 := HD2.out.cell 1 (v := .int .i64 0) rfl
  have hd2 := HD2.out.cell 2 (v := .pointer none) rfl
  have hdl := HD2.out.lt
  have hg0 := HD2.out.free 0
  have hg1 := HD2.out.free 1
  have hg2 := HD2.out.free 2
  have hpf := (((HPA.out.off hg1a 2 (.pointer (some ⟨N (hgt l.length), 0, none⟩))).off hg1b 0 (.int .i64 l.length)).off hg1b 1 (.int .i64 (hgt l.length))).off hg1b 2 (.pointer (some ⟨N (hgt l.length), 0, none⟩))
  have hxf : Ext w ((((w2.setCell ⟨w.heap.size, 2, none⟩ (.pointer (some ⟨N (hgt l.length), 0, none⟩))).setCell ⟨w.heap.size + 1, 0, none⟩ (.int .i64 l.length)).setCell ⟨w.heap.size + 1, 1, none⟩ (.int .i64 (hgt l.length))).setCell ⟨w.heap.size + 1, 2, none⟩ (.pointer (some ⟨N (hgt l.length), 0, none⟩))) :=
    bel_set (bel_set (bel_set (bel_set HX2.out (Nat.le_refl _) _ _) (by omega) _ _) (by omega) _ _) (by omega) _ _
  have HTN := Lib.hid (tree_new (HT.out.ext hxf) hi hpf)
  have HXF := Lib.hid hxf
  have HTQ : Hid (treeV l.length (newP P i N) = .agg #[.int .i64 l.length, .int .i64 (hgt l.length), .pointer (some ⟨N (hgt l.length), 0, none⟩)]) := by
    show _ = _
    unfold treeV topP encP
    rw [if_neg (by omega), show newP P i N (hgt l.length) 0 = N (hgt l.length) from if_pos HUP.out.symm]
  clear hpf hxf
  go_wp2_with fail
  refine bodyPost_ret (v := .tuple #[treeV l.length (newP P i N), .int .i64 0]) ?_ rfl ⟨N, rfl, HTN.out, HN.out, HXF.out⟩
  rw [HTQ.out]
  simp only [results, Try.results22]
  go_simp
theorem Set_no (l : List (BitVec 64)) (P : Nat → Nat → Nat) (i : Int) (x : BitVec 64) (w : World) (hl : l.length ≤ 100000) (hi : ¬ (0 ≤ i ∧ i < l.length)) :
    Calls Try.prog 22 #[treeV l.length P, .int .i64 i, encU x] w fun e w' => e = .returned (.tuple #[.agg #[.int .i64 0, .int .i64 0, .pointer none], .int .i64 2]) ∧ Below w.heap.size w w' := by
  have HH := has_any l.length P i
  obtain ⟨ap, hTV⟩ := treeV_ptr l.length P
  rw [hTV] at HH ⊢
  have HH := Lib.hid HH
  have a1 : Ext w (w.alloc (.cells #[.int .i64 l.length, .int .i64 (hgt l.length), .pointer ap] 29)) := Ext.alloc _ _
  have a2 : Ext (w.alloc (.cells #[.int .i64 l.length, .int .i64 (hgt l.length), .pointer ap] 29)) ((w.alloc (.cells #[.int .i64 l.length, .int .i64 (hgt l.length), .pointer ap] 29)).alloc (.cells #[.int .i64 0, .int .i64 0, .pointer none] 29)) := Ext.alloc _ _
  have HX : Hid (Ext w ((w.alloc (.cells #[.int .i64 l.length, .int .i64 (hgt l.length), .pointer ap] 29)).alloc (.cells #[.int .i64 0, .int .i64 0, .pointer none] 29))) := a1.trans a2
  have HB2 : Hid (BoxAt ((w.alloc (.cells #[.int .i64 l.length, .int .i64 (hgt l.length), .pointer ap] 29)).alloc (.cells #[.int .i64 0, .int .i64 0, .pointer none] 29)) (w.heap.size + 1) #[.int .i64 0, .int .i64 0, .pointer none] 29) := by
    have h := BoxAt.new (w.alloc (.cells #[.int .i64 l.length, .int .i64 (hgt l.length), .pointer ap] 29)) #[.int .i64 0, .int .i64 0, .pointer none] 29
    rw [show (w.alloc (.cells #[.int .i64 l.length, .int .i64 (hgt l.length), .pointer ap] 29)).heap.size = w.heap.size + 1 by simp] at h
    exact h
  have hdd : decide (0 ≤ i ∧ i < (l.length : Int)) = false := decide_eq_false hi
  have HD := Lib.hid hdd
  clear hTV a1 a2 hdd hi
  go_enter Try.func22, Try.ntmps22
  go_wp2_with fail
  generalize (w.alloc (.cells #[.int .i64 l.length, .int .i64 (hgt l.length), .pointer ap] 29)).alloc (.cells #[.int .i64 0, .int .i64 0, .pointer none] 29) = wa at *
  go_at_call 26
  refine (HH.out _ hl).mono ?_
  rintro e w1 ⟨rfl, hb1⟩
  rw [HD.out]
  have HX1 : Hid (Ext w w1) := HX.out.trans hb1
  have HC2 := Lib.hid (HB2.out.ext hb1)
  have hd0 := HC2.out.cell 0 (v := .int .i64 0) rfl
  have hd1 := HC2.out.cell 1 (v := .int .i64 0) rfl
  have hd2 := HC2.out.cell 2 (v := .pointer none) rfl
  have hdl := HC2.out.lt
  have hg0 := HC2.out.free 0
  have hg1 := HC2.out.free 1
  have hg2 := HC2.out.free 2
  have HXF : Hid (Ext w (((w1.setCell ⟨w.heap.size + 1, 0, none⟩ (.int .i64 0)).setCell ⟨w.heap.size + 1, 1, none⟩ (.int .i64 0)).setCell ⟨w.heap.size + 1, 2, none⟩ (.pointer none))) :=
    bel_set (bel_set (bel_set HX1.out (by omega) _ _) (by omega) _ _) (by omega) _ _
  clear hb1 HH
  go_wp2_with fail
  refine bodyPost_ret (v := .tuple #[.agg #[.int .i64 0, .int .i64 0, .pointer none], .int .i64 2]) ?_ rfl ⟨rfl, HXF.out⟩
  simp only [results, Try.results22]
  go_simp
end Go.Proofs.Ytdhlikjdcnfkpaa
