/-
  Chapter 26 (sumtree): Levels and Root of the reference.
-/
import Derived.Test.YtdhlikjdcnfkpaaStE
namespace Go.Proofs.Ytdhlikjdcnfkpaa
open Go.RowKit
set_option linter.unusedVariables false

theorem infoR : (Try.prog.info? 22).map (fun i => (i.zero, i.size, i.bytes)) = some (some (.slice none 0 0), 1, 24) := by kernel_rfl
theorem rows_apart {α β : Type} {enc : α → Value} {enc' : β → Value} {e e' : TypeId} {w : World} {b b' : Nat} {v v' : Value} {l : List α} {l' : List β} (h : OwnG enc e w b v l) (h' : OwnG enc' e' w b' v' l') (hne : e ≠ e') : ∀ g, v.ownBlock = some g → v'.ownBlock ≠ some g := by
  intro g hg
  rcases h.2 with ⟨h1, _⟩ | ⟨g', cap, cur, h1, h2, h3, _⟩
  · rw [h1] at hg; simp [Value.ownBlock] at hg
  · rw [h1] at hg; simp [Value.ownBlock] at hg
    subst hg
    exact h'.not_box (show BoxAt w g' cur e from h3) hne
/-- an own row of the levels up to K -/
def LevAt (w : World) (base : Nat) (v : Value) (l : List (BitVec 64)) (K : Nat) : Prop :=
  ∃ vs : List Value, OwnG id 22 w base v vs ∧ vs.length = K + 1 ∧ ∀ k (h : k < vs.length), OwnG encU 34 w base vs[k] (lvl l k)
theorem LevAt.ext {w w' : World} {base : Nat} {v : Value} {l : List (BitVec 64)} {K : Nat} (h : LevAt w base v l K) (e : Ext w w') : LevAt w' base v l K := by
  obtain ⟨vs, h1, h2, h3⟩ := h
  exact ⟨vs, h1.ext e, h2, fun k a => (h3 k a).ext e⟩
theorem LevAt.lower {w : World} {base b' : Nat} {v : Value} {l : List (BitVec 64)} {K : Nat} (h : LevAt w base v l K) (hb : b' ≤ base) : LevAt w b' v l K := by
  obtain ⟨vs, h1, h2, h3⟩ := h
  exact ⟨vs, h1.lower hb, h2, fun k a => (h3 k a).lower hb⟩
theorem LevAt.form {w : World} {base : Nat} {v : Value} {l : List (BitVec 64)} {K : Nat} (h : LevAt w base v l K) : ∃ g c, v = .slice (some ⟨g, 0, none⟩) (K + 1) (c + 1) ∧ base ≤ g ∧ g < w.heap.size := by
  obtain ⟨vs, h1, h2, _⟩ := h
  obtain ⟨g, c, e, h3, h4⟩ := h1.form (by omega)
  exact ⟨g, c, by rw [e, h2], h3, h4⟩
theorem LevAt.elem {w : World} {base g c K : Nat} {l : List (BitVec 64)} (h : LevAt w base (.slice (some ⟨g, 0, none⟩) (K + 1) c) l K) (k : Nat) (hk : k ≤ K) :
    ∃ a d, w.cell? ⟨g, k, none⟩ = some (.slice a (sz l.length k) d) ∧ OwnG encU 34 w base (.slice a (sz l.length k) d) (lvl l k) := by
  obtain ⟨vs, h1, h2, h3⟩ := h
  have hk2 : k < vs.length := by omega
  obtain ⟨a, d, e⟩ := (h3 k hk2).shape
  rw [lvl_len] at e
  have h4 := h3 k hk2
  have h5 := h1.at h2.symm (k := k) hk2
  simp only [id] at h5
  rw [e] at h4 h5
  exact ⟨a, d, h5, h4⟩
theorem LevAt.snoc {w w' : World} {base K : Nat} {v v' vb : Value} {l : List (BitVec 64)} (vs : List Value) (h1 : OwnG id 22 w base v vs) (h2 : vs.length = K + 1) (h3 : ∀ k (h : k < vs.length), OwnG encU 34 w base vs[k] (lvl l k))
    (hb : OwnG encU 34 w base vb (lvl l (K + 1))) (ho : w'.ownsRow base 22 1 v' (vs.length + 1) (vs.map id ++ [vb])) (hg : w.grownBy w' v.ownBlock) : LevAt w' base v' l (K + 1) := by
  have keep : ∀ {u : Value} {x : List (BitVec 64)}, OwnG encU 34 w base u x → OwnG encU 34 w' base u x := by
    intro u x hu
    refine OwnG.kept hu hg ?_
    cases hv : u.ownBlock with
    | none => exact .inr rfl
    | some g => exact .inl fun e => rows_apart hu h1 (by decide) g hv e.symm
  refine ⟨vs ++ [vb], OwnG.snoc ho, by simp [h2], fun i a => ?_⟩
  by_cases hi : i < vs.length
  · rw [List.getElem_append_left hi]
    exact keep (h3 i hi)
  · have : i = vs.length := by simp at a; omega
    subst this
    rw [List.getElem_append_right (by omega)]
    simp only [Nat.sub_self, List.getElem_singleton, h2]
    exact keep hb
def LevelsEnd (W : World) (l : List (BitVec 64)) (e : Ending) (w' : World) : Prop :=
  ∃ v, e = .returned v ∧ LevAt w' W.heap.size v l (hgt l.length) ∧ Below W.heap.size W w'

set_option maxRecDepth 100000 in
set_option maxHeartbeats 4000000 in
theorem levels_any (v : Value) (l : List (BitVec 64)) (w : World) (hl : l.length ≤ 100000) (h : SliceAt encU w v l) :
    Calls Try.prog 30 #[v] w (LevelsEnd w l) := by
  obtain ⟨i0, hi, hz0, hz1, hz2⟩ := info_parts infoU
  obtain ⟨j0, hj, hj0, hj1, hj2⟩ := info_parts infoR
  obtain ⟨ad, cap, rfl⟩ := h.shape
  have HS := Lib.hid h
  have hh := hgt_small hl
  clear h
  go_enter Try.func30, Try.ntmps30
  go_wp2_with (at_builtin; refine Classical.byContradiction (fun hN => ?_))
  refine hN ?_
  clear hN
  have hlit : OwnG encU 34 (w.alloc (.cells #[] 34)) w.heap.size (.slice (some ⟨w.heap.size, 0, none⟩) 0 0) [] := OwnG.lit (enc := encU) w [] 34 w.heap.size (Nat.le_refl _) (Nat.zero_le _) #[] rfl
  have hxa : Ext w (w.alloc (.cells #[] 34)) := Ext.alloc _ _
  refine wpList_append_slice (enc := encU) (fun _ => rfl) rfl _ _ 22 rfl w.heap.size 34 i0 (.int .u64 0) 8 Try.underlying22 hi hz0 hz1 hz2 rfl _ _ _ rfl hlit _ l rfl (HS.out.ext hxa) (by unfold maxLen; simp only [List.length_nil]; omega) (by simp only [List.length_nil]; omega) hxa.size ?_
  intro v2 w2 ho2 hg2
  have HX2 : Hid (Ext w w2) := hxa.grown hg2 hxa.size (fun q hq => (hlit.lt q hq).1)
  have ho2 := OwnG.app (l := []) ho2
  rw [List.nil_append] at ho2
  obtain ⟨a2, c2, rfl⟩ := ho2.shape
  have e2 : Ext w2 (w2.alloc (.cells #[.slice a2 l.length c2] 22)) := Ext.alloc _ _
  have HL2 : Hid (LevAt (w2.alloc (.cells #[.slice a2 l.length c2] 22)) w.heap.size (.slice (some ⟨w2.heap.size, 0, none⟩) 1 1) l 0) :=
    ⟨[.slice a2 l.length c2], OwnG.lit (enc := id) w2 [.slice a2 l.length c2] 22 w.heap.size HX2.out.size (by unfold maxLen; simp) _ rfl, rfl, fun k a => by
      have hk : k = 0 := by simp at a; exact a
      subst hk
      exact ho2.ext e2⟩
  have HX3 : Hid (Ext w (w2.alloc (.cells #[.slice a2 l.length c2] 22))) := HX2.out.trans e2
  clear hlit hxa hg2 e2
  go_wp2_with fail
  generalize w2.alloc (.cells #[.slice a2 l.length c2] 22) = w3 at *
  go_loopw [3] (fun vl wr => ∃ K : Nat, K ≤ hgt l.length ∧ Hid (LevAt wr w.heap.size vl l K) ∧ Hid (Ext w wr)) (fun vl _ => hgt l.length + 2 - lenOf vl)
  case atStart => exact ⟨0, Nat.zero_le _, HL2, HX3⟩
  case round =>
    obtain ⟨K, hK, HL, HX⟩ := hrel
    generalize wr = wo at *
    obtain ⟨g, c, rfl, hg1, hg2⟩ := HL.out.form
    obtain ⟨a, d, hcK, hoK⟩ := HL.out.elem K (Nat.le_refl _)
    have HOK := Lib.hid hoK
    have hszl : sz l.length K ≤ 100000 := Nat.le_trans (sz_le _ _) hl
    have hsn : sz l.length (K + 1) = (sz l.length K + 3) / 4 := rfl
    clear hoK
    by_cases h1 : 1 < sz l.length K
    · have hin : (1 : Int) < (sz l.length K : Int) := by omega
      have hK1 : K < hgt l.length := by
        rcases Nat.lt_or_eq_of_le hK with h | h
        · exact h
        · rw [h] at h1; have := sz_hgt l.length; omega
      generalize hm : sz l.length K = m at *
      generalize hm2 : sz l.length (K + 1) = m2 at *
      have HM := Lib.hid hm
      have HM2 := Lib.hid hm2
      have HSN := Lib.hid hsn
      clear hm hm2 hsn
      go_wp2_with fail
      go_loopw [5, 6] (fun va x wr => ∃ j : Nat, j ≤ m2 ∧ x = .int .i64 (4 * (j : Int)) ∧ Hid (OwnG encU 34 wr wo.heap.size va (parK (lvl l K) j)) ∧ Hid (Ext wo wr)) (fun _ x _ => m + 4 - (intOf x).toNat)
      case atStart => exact ⟨0, Nat.zero_le _, rfl, Lib.hid OwnG.nil, Lib.hid (Ext.refl _)⟩
      case round =>
        obtain ⟨j, hj', rfl, HQ, HX4⟩ := hrel
        by_cases hlt : 4 * j < m
        · have hin2 : 4 * (j : Int) < (m : Int) := by omega
          obtain ⟨hi_, hhi⟩ : ∃ hi_, min (4 * j + 4) m = hi_ := ⟨_, rfl⟩
          have hMin := fun (w : World) (ts : Array TypeId) (t : TypeId) => run_min2 (P := Try.prog) w ts t (4 * (j : Int) + 4) (m : Int)
          rw [show min (4 * (j : Int) + 4) (m : Int) = (hi_ : Int) by omega] at hMin
          have hb1 : 4 * j ≤ hi_ := by omega
          have hb2 : hi_ ≤ m := by omega
          have n1 : (4 * (j : Int)).toNat = 4 * j := by omega
          have hcv : hi_ ≤ d := Nat.le_trans hb2 (HOK.out.slice).cap.2
          have hj2 : j < m2 := by have := HSN.out; omega
          obtain ⟨A, hA, HC⟩ := (HOK.out.slice).cutA (4 * j) hi_ hb1 (by rw [lvl_len, HM.out]; exact hb2)
          have hce : ((lvl l K).drop (4 * j)).take (hi_ - 4 * j) = grp (lvl l K) j := by
            unfold grp
            rw [← hhi]
            rcases Nat.le_total (4 * j + 4) m with h' | h'
            · rw [Nat.min_eq_left h', show 4 * j + 4 - 4 * j = 4 by omega]
            · rw [Nat.min_eq_right h', List.take_of_length_le (by rw [List.length_drop, lvl_len, HM.out]; omega), List.take_of_length_le (by rw [List.length_drop, lvl_len, HM.out]; omega)]
          rw [hce] at HC
          have HC := Lib.hid HC
          have hgl : (grp (lvl l K) j).length ≤ 100000 := by rw [grp_len]; unfold kidN; omega
          have HPS := Lib.hid (parK_succ (lvl l K) j)
          clear hhi hce
          go_wp2_with fail
          go_at_call 33
          refine (rrun_any _ (grp (lvl l K) j) _ hgl (SliceAt.ext HC.out HX4.out)).mono ?_
          rintro e w5 ⟨rfl, hb5⟩
          have HX5 : Hid (Ext wr w5) := hb5
          obtain ⟨aq, cq, rfl⟩ := HQ.out.shape
          rw [parK_len] at HQ ⊢
          have hrq : wo.heap.size ≤ w5.heap.size := (HX4.out.trans HX5.out).size
          clear hb5
          go_wp2_with (at_builtin; refine Classical.byContradiction (fun hN => ?_))
          refine hN ?_
          clear hN
          have e1 : Ext w5 (w5.alloc (.cells #[encU (runL (grp (lvl l K) j))] 34)) := Ext.alloc _ _
          have hown := (HQ.out.ext HX5.out).ext e1
          refine wpList_append_one rfl _ _ _ rfl wo.heap.size 34 i0 (.int .u64 0) 8 Try.underlying22 hi hz0 hz1 hz2 rfl _ _ _ rfl hown _ (encU (runL (grp (lvl l K) j))) rfl rfl (cell_new1 _ _ _) (by rw [parK_len]; unfold maxLen; omega) (by rw [parK_len]; omega) (by simp; omega) ?_
          intro v6 w6 ho6 hg6 _
          have HO6 : Hid (OwnG encU 34 w6 wo.heap.size v6 (parK (lvl l K) (j + 1))) := by
            show OwnG _ _ _ _ _ _
            rw [HPS.out]
            exact OwnG.snoc (enc := encU) (x := runL (grp (lvl l K) j)) ho6
          have HX6 : Hid (Ext wo w6) := ((HX4.out.trans HX5.out).trans e1).grown hg6 (by simp; omega) (fun q hq => (hown.lt q hq).1)
          clear ho6 hg6
          go_wp2
          go_roundw
          case rel => exact ⟨j + 1, by omega, by congr 1, HO6, HX6⟩
          case measure => show m + 4 - (intOf (.int .i64 (4 * (j : Int) + 4))).toNat < m + 4 - (intOf (.int .i64 (4 * (j : Int)))).toNat; unfold intOf; simp only; omega
        · have hjm : j = m2 := by have := HSN.out; omega
          subst hjm
          have hin2 : ¬ (4 * (j : Int) < (m : Int)) := by omega
          have hpar : parK (lvl l K) j = lvl l (K + 1) := by
            rw [← HM2.out]
            show _ = par (lvl l K)
            unfold par
            rw [lvl_len]; rfl
          rw [hpar] at HQ
          have HQ2 := Lib.hid (HQ.out.lower HX.out.size)
          obtain ⟨aq, cq, hvq⟩ := HQ.out.shape
          subst hvq
          rw [lvl_len, HM2.out] at HQ2 ⊢
          have hso : w.heap.size ≤ wr.heap.size := (HX.out.trans HX4.out).size
          clear hpar HQ
          go_wp2_with (at_builtin; refine Classical.byContradiction (fun hN => ?_))
          refine hN ?_
          clear hN
          have e1 : Ext wr (wr.alloc (.cells #[.slice aq j cq] 22)) := Ext.alloc _ _
          obtain ⟨vs, h1', h2', h3'⟩ := (HL.out.ext HX4.out).ext e1
          refine wpList_append_one rfl _ _ _ rfl w.heap.size 22 j0 (.slice none 0 0) 24 Try.underlying63 hj hj0 hj1 hj2 rfl _ _ _ rfl h1' _ _ rfl rfl (cell_new1 _ _ _) (by rw [h2']; unfold maxLen; omega) (by rw [h2']; omega) (by simp; omega) ?_
          intro v7 w7 ho7 hg7 _
          have HL7 := Lib.hid (LevAt.snoc vs h1' h2' h3' (HQ2.out.ext e1) ho7 hg7)
          have HX7 : Hid (Ext w w7) := ((HX.out.trans HX4.out).trans e1).grown hg7 (by simp; omega) (fun q hq => (h1'.lt q hq).1)
          obtain ⟨g7, c7, hv7, _, _⟩ := HL7.out.form
          subst hv7
          clear ho7 hg7
          go_wp2
          go_roundw
          case rel => exact ⟨K + 1, hK1, HL7, HX7⟩
          case measure => show hgt l.length + 2 - (K + 1 + 1) < hgt l.length + 2 - (K + 1); omega
    · have hin : ¬ ((1 : Int) < (sz l.length K : Int)) := by omega
      have hKh : K = hgt l.length := by
        rcases Nat.lt_or_eq_of_le hK with h | h
        · have := sz_below h; omega
        · exact h
      have HLE : Hid (LevAt wo w.heap.size (.slice (some ⟨g, 0, none⟩) (K + 1) (c + 1)) l (hgt l.length)) := by show LevAt _ _ _ _ _; rw [← hKh]; exact HL.out
      clear hKh
      go_wp2_with fail
      go_ret
      exact ⟨_, rfl, HLE.out, HX.out⟩

set_option maxHeartbeats 800000 in
theorem rroot_any (v : Value) (l : List (BitVec 64)) (w : World) (hl : l.length ≤ 100000) (h : SliceAt encU w v l) :
    Calls Try.prog 35 #[v] w fun e w' => e = .returned (encU (rootL l)) ∧ Below w.heap.size w w' := by
  obtain ⟨ad, cap, rfl⟩ := h.shape
  have HS := Lib.hid h
  have hh := hgt_small hl
  clear h
  go_enter Try.func35, Try.ntmps35
  go_wp2_with fail
  go_at_call 30
  refine (levels_any _ l _ hl HS.out).mono ?_
  rintro e w1 ⟨v1, rfl, hl1, hb1⟩
  have HX1 : Hid (Ext w w1) := hb1
  obtain ⟨g, c, rfl, hg1, hg2⟩ := hl1.form
  obtain ⟨a, d, hcK, hoK⟩ := hl1.elem (hgt l.length) (Nat.le_refl _)
  obtain ⟨k, hk⟩ : ∃ k, hgt l.length = k := ⟨_, rfl⟩
  have HK := Lib.hid hk
  rw [hk] at hcK hoK hh ⊢
  clear hb1 hl1 hk
  by_cases h0 : l.length = 0
  · have hs0 : sz l.length k = 0 := by have := sz_le l.length k; omega
    rw [hs0] at hcK hoK
    have HR : Hid (rootL l = topL 0 0#64) := by
      show _ = _
      have : l = [] := List.eq_nil_of_length_eq_zero h0
      subst this; unfold rootL; rw [show hgt ([] : List (BitVec 64)).length = 0 from hgt_low (by simp)]; rfl
    have H0 := Lib.hid h0
    clear h0 hoK
    go_wp2_with fail
    go_at_call 34
    refine (rtop_any 0 0#64 _ (by omega)).mono ?_
    rintro e w2 ⟨rfl, hb2⟩
    have HX2 : Hid (Ext w1 w2) := hb2
    clear hb2
    go_wp2_with fail
    go_ret
    exact ⟨by rw [HR.out]; rfl, HX1.out.trans HX2.out⟩
  · have hs1 : sz l.length k = 1 := by have := sz_pos (n := l.length) (by omega) k; have := sz_hgt l.length; rw [HK.out] at this; omega
    obtain ⟨b, off, hab, hb, hcc⟩ := hoK.slice.get 0 (by rw [lvl_len]; omega)
    rw [hs1] at hcK
    have HR : Hid (rootL l = topL l.length ((lvl l k)[0]'(by rw [lvl_len]; omega))) := by
      show _ = _
      unfold rootL
      rw [HK.out, getD_in]
    subst hab
    generalize (lvl l k)[0]'(by rw [lvl_len]; omega) = x at *
    simp only [Nat.add_zero] at hcc
    clear hoK
    go_wp2_with fail
    go_at_call 34
    refine (rtop_any l.length x _ (by omega)).mono ?_
    rintro e w2 ⟨rfl, hb2⟩
    have HX2 : Hid (Ext w1 w2) := hb2
    clear hb2
    go_wp2_with fail
    go_ret
    exact ⟨by rw [HR.out]; rfl, HX1.out.trans HX2.out⟩
end Go.Proofs.Ytdhlikjdcnfkpaa
