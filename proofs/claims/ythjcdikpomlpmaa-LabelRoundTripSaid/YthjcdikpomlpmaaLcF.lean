/-
  Chapter 30 (label): own lists of rows; the walk of LabelRoundTrip.
-/
import Derived.Test.YthjcdikpomlpmaaLcD
namespace Go.Proofs.Ythjcdikpomlpmaa
open Go.ChangeShapes Go.WideShapes Go.ChangeAt Go.RowKit
set_option linter.unusedVariables false

/-- an own list of rows, the rows in the world W -/
def OwnR (W w : World) (v : Value) (S : List (List (BitVec 8))) : Prop :=
  ∃ vs : List SV, OwnG encS 35 w W.heap.size v vs ∧ vs.length = S.length ∧ (∀ i (h1 : i < vs.length) (h2 : i < S.length), SliceAt encB W (encS vs[i]) S[i]) ∧ Ext W w
theorem OwnR.rows {W w : World} {v : Value} {S : List (List (BitVec 8))} (h : OwnR W w v S) : RowsB w v S := by
  obtain ⟨vs, h1, h2, h3, h4⟩ := h
  exact ⟨vs, h1.slice, h2, fun i a b => (h3 i a b).ext h4⟩
theorem OwnR.lit {W w : World} (e : Ext W w) : OwnR W (w.alloc (.cells #[] 35)) (.slice (some ⟨w.heap.size, 0, none⟩) 0 0) [] :=
  ⟨[], OwnG.lit w [] _ _ e.size (by decide) #[] rfl, rfl, fun i h => absurd h (by simp), e.trans (Ext.alloc _ _)⟩
theorem OwnR.ext {W w w' : World} {v : Value} {S : List (List (BitVec 8))} (h : OwnR W w v S) (e : Ext w w') : OwnR W w' v S := by
  obtain ⟨vs, h1, h2, h3, h4⟩ := h
  exact ⟨vs, h1.ext e, h2, h3, h4.trans e⟩
theorem OwnR.up {W w : World} {v : Value} {S : List (List (BitVec 8))} (h : OwnR W w v S) : Ext W w := by
  obtain ⟨vs, h1, h2, h3, h4⟩ := h
  exact h4
theorem wpList_append_rows {ops : Array Oper} {rest : List Oper} {o : Oper} {a : Act} {w : World} {Q : Exit → Act → World → Prop} (hgd : o.guard = none) (s x : Operand)
    (ho : o.op = .call { callee := .builtin .append, args := #[s, x], argTypes := #[31, 31] })
    (W : World) (v vx : Value) (S T : List (List (BitVec 8))) (hs : a.eval s = v) (hown : OwnR W w v S) (hx : a.eval x = vx) (hsrc : RowsB W vx T) (hn : S.length + T.length ≤ 1000)
    (h : ∀ v' w', OwnR W w' v' (S ++ T) → Ext W w' → wpList Try.prog ops Q rest (a.put o.dst v') w') : wpList Try.prog ops Q (o :: rest) a w := by
  have hi0 : (Try.prog.info? 35).map (fun i => (i.zero, i.size, i.bytes)) = some (some (.slice none 0 0), 1, 24) := by kernel_rfl
  obtain ⟨i0, hi, hz0, hz1, hz2⟩ := info_parts hi0
  obtain ⟨vs, h1, h2, h3, h4⟩ := hown
  obtain ⟨us, g1, g2, g3⟩ := hsrc
  refine wpList_append_slice (enc := encS) (fun _ => rfl) hgd s x _ ho W.heap.size 35 i0 (.slice none 0 0) 24 Try.underlying31 hi hz0 hz1 hz2 rfl v _ _ hs h1 vx us hx (g1.ext h4) (by unfold maxLen; omega) (by omega) h4.size (fun v' w' ho' hg' => ?_)
  have hx2 : Ext W w' := h4.grown hg' h4.size (fun q hq => (h1.lt q hq).1)
  refine h v' w' ⟨vs ++ us, OwnG.app (enc := encS) ho', by rw [List.length_append, List.length_append, h2, g2], fun i a b => ?_, hx2⟩ hx2
  by_cases hi : i < vs.length
  · rw [List.getElem_append_left hi, List.getElem_append_left (by omega)]
    exact h3 i hi (by omega)
  · rw [List.length_append] at a
    rw [List.getElem_append_right (by omega), List.getElem_append_right (by omega)]
    simp only [h2]
    exact g3 (i - S.length) (by omega) (by omega)
theorem SliceAt.put {α : Type} {enc : α → Value} {w : World} {g o n c : Nat} {l : List α} (h : SliceAt enc w (.slice (some ⟨g, o, none⟩) n c) l) (k : Nat) (hk : k < l.length) (x : α) : SliceAt enc (w.setCell ⟨g, o + k, none⟩ (enc x)) (.slice (some ⟨g, o, none⟩) n c) (l.set k x) := by
  obtain ⟨ad, cap, hv, hca, h⟩ := h
  injection hv with e1 e2 e3
  subst e1 e2 e3
  refine ⟨_, _, by rw [List.length_set], by rw [List.length_set]; exact hca, ?_⟩
  rcases h with ⟨rfl, _⟩ | ⟨b, off, ha, hb, hc⟩
  · simp at hk
  · injection ha with ha
    injection ha with ha1 ha2
    subst ha1 ha2
    refine .inr ⟨_, _, rfl, by simpa using hb, fun i hi => ?_⟩
    rw [List.length_set] at hi
    rw [List.getElem_set]
    by_cases e : k = i
    · subst e
      rw [if_pos rfl]
      exact set_same (hc k hi)
    · rw [if_neg e, set_off (by omega)]
      exact hc i hi
/-- the own list's address, and its k-th row lost -/
theorem OwnR.form {W w : World} {v : Value} {S : List (List (BitVec 8))} (h : OwnR W w v S) (h0 : 0 < S.length) : ∃ g c, v = .slice (some ⟨g, 0, none⟩) S.length c ∧ W.heap.size ≤ g ∧ g < w.heap.size ∧ (∀ j, w.frozen? ⟨g, j, none⟩ = false) ∧
    ∀ k, k < S.length → (∃ u, w.cell? ⟨g, k, none⟩ = some (encS u)) ∧ RowsB (w.setCell ⟨g, k, none⟩ (.slice none 0 0)) v (S.set k []) ∧ Ext W (w.setCell ⟨g, k, none⟩ (.slice none 0 0)) := by
  obtain ⟨vs, h1, h2, h3, h4⟩ := h
  obtain ⟨g, c, e, hg1, hg2⟩ := h1.form (by rw [h2]; exact h0)
  subst e
  refine ⟨g, c + 1, by rw [h2], hg1, hg2, fun j => h1.frees rfl j, fun k hk => ?_⟩
  have hkv : k < vs.length := by rw [h2]; exact hk
  have hX : Ext W (w.setCell ⟨g, k, none⟩ (.slice none 0 0)) := Ext.setOwn h4 hg1
  have hp := SliceAt.put h1.slice k hkv (none, 0, 0)
  rw [Nat.zero_add] at hp
  refine ⟨⟨_, h1.at rfl hkv⟩, ⟨vs.set k (none, 0, 0), hp, by rw [List.length_set, List.length_set, h2], fun i a b => ?_⟩, hX⟩
  rw [List.length_set] at a b
  rw [List.getElem_set, List.getElem_set]
  by_cases e : k = i
  · rw [if_pos e, if_pos e]; exact SliceAt.nil
  · rw [if_neg e, if_neg e]; exact (h3 i a b).ext hX
theorem enc_rows {l : Lab} {x : List Bool} (hv : validL l x = true) : (Lb.encL l x).length ≤ 4 ∧ 1 ≤ (Lb.encL l x).length ∧ ∀ r, r ∈ Lb.encL l x → r.length ≤ 200 := by
  have hF := Lb.fine_of hv
  have hel := Lb.enc_len hF
  refine ⟨hel.2, hel.1, fun r hr => ?_⟩
  unfold Lb.encL Lb.cutL at hr
  obtain ⟨j, hj, rfl⟩ := List.mem_map.1 hr
  have := Lb.sector_len hF (List.mem_range.1 hj)
  omega
theorem dec_back {l : Lab} {x : List Bool} (hv : validL l x = true) (T : List (List (BitVec 8))) : Lb.decT (Lb.encL l x ++ T) = some (l, x) := Lb.dec_iff.2 ⟨hv, List.prefix_append _ _⟩
theorem dec_set {l : Lab} {x : List Bool} (hv : validL l x = true) {k : Nat} (hk : k < (Lb.encL l x).length) : Lb.decT ((Lb.encL l x).set k []) = none :=
  Lb.dec_lost hv hk (fun i hi => List.getElem?_set_ne (by omega)) (.inr (List.getElem?_set_self hk))
theorem dec_take {l : Lab} {x : List Bool} (hv : validL l x = true) {k : Nat} (hk : k < (Lb.encL l x).length) : Lb.decT ((Lb.encL l x).take k) = none :=
  Lb.dec_lost hv hk (fun i hi => by rw [List.getElem?_take, if_pos hi]) (.inl (List.getElem?_eq_none (by rw [List.length_take]; omega)))
theorem decEnd_some {w w' : World} {o : Option Lb.LX} {e : Ending} {l : Lab} {x : List Bool} (h : DecEnd w o e w') (ho : o = some (l, x)) : ∃ dv, e = .returned (.tuple #[labV l dv, .int .i64 0]) ∧ SliceAt Value.bool w' dv x ∧ Ext w w' := by
  subst ho
  exact h
theorem decEnd_none {w w' : World} {o : Option Lb.LX} {e : Ending} (h : DecEnd w o e w') (ho : o = none) : ∃ dv, e = .returned (.tuple #[labV lz dv, .int .i64 5]) ∧ SliceAt Value.bool w' dv [] ∧ Ext w w' := by
  subst ho
  exact h
set_option maxRecDepth 100000 in
set_option maxHeartbeats 4000000 in
theorem labelRoundTrip_walk (l : Lab) (dv : Value) (x : List Bool) (v : Value) (S : List (List (BitVec 8))) (z : BitVec 8) (w : World) (hm : x.length ≤ maxLen) (mS : S.length ≤ maxLen) (qS : ∀ r, r ∈ S → r.length ≤ maxLen) (h : SliceAt Value.bool w dv x) (hS : RowsB w v S) :
    Calls Try.prog 8 #[labV l dv, v, .int .u8 (ub z)] w fun e w' => e = .returned (.bool true) ∧ Below w.heap.size w w' := by
  have HE := Lib.hid (fun (w' : World) (e : Ext w w') (hl : x.length ≤ 100000) => encode_any l dv x w' hl (h.ext e))
  have HVL := Lib.hid (fun (w' : World) (e : Ext w w') (hl : x.length ≤ 100000) => rvalid_any l dv x w' hl (h.ext e))
  have HLG := Lib.hid (fun (w' : World) (e : Ext w w') => long_any v S w' mS qS (hS.ext e))
  have HRS := Lib.hid hS
  obtain ⟨ad, cd, rfl⟩ := h.shape
  have HDX := Lib.hid h
  obtain ⟨aS, cS, rfl, _⟩ := hS.shape
  unfold maxLen at hm
  have hZ := z.isLt
  show Calls _ _ #[_, _, .int .u8 (z.toNat : Nat)] _ _
  generalize z.toNat = Z at *
  obtain ⟨n, hn⟩ : ∃ n, x.length = n := ⟨_, rfl⟩
  have HN := Lib.hid hn
  rw [hn] at HE HVL HDX hm ⊢
  have HB1 : Hid (BoxAt (w.alloc (.cells (labA l (.slice ad n cd)) 29)) w.heap.size (labA l (.slice ad n cd)) 29) := BoxAt.new _ _ _
  have HX1 : Hid (Ext w (w.alloc (.cells (labA l (.slice ad n cd)) 29))) := Ext.alloc _ _
  clear h hn hS mS qS
  go_enter Try.func8, Try.ntmps8
  go_upto_region 1 with fail
  generalize w.alloc (.cells (labA l (.slice ad n cd)) 29) = w1 at *
  go_wp2_with fail
  go_at_call 10
  refine (awake_any _).mono ?_
  rintro e w2 ⟨rfl, hx2⟩
  have HX2 : Hid (Ext w w2) := HX1.out.trans hx2
  have HB2 := Lib.hid (HB1.out.ext hx2)
  clear hx2 HB1 HX1
  have m15 := HB2.out.cell 15 (v := .slice ad n cd) rfl
  have hgl := HB2.out.lt
  by_cases hbig : 100 < n
  · have d1 : decide ((100 : Int) < (n : Int)) = true := by rw [decide_eq_true_iff]; omega
    have d2 : decide (100 < n) = true := by rw [decide_eq_true_iff]; omega
    clear hbig
    go_wp2_with fail
    go_ret
    exact ⟨rfl, HX2.out⟩
  · have d1 : decide ((100 : Int) < (n : Int)) = false := by rw [decide_eq_false_iff_not]; omega
    have d2 : decide (100 < n) = false := by rw [decide_eq_false_iff_not]; omega
    have hn1 : n ≤ 100000 := by omega
    clear hbig
    go_wp2_with (refine wpList_loadR 29 _ rfl (by rfl) rfl (LabAt.of_box HB2.out).load ?_)
    go_at_call 18
    refine (HVL.out _ HX2.out hn1).mono ?_
    rintro e w3 ⟨rfl, hx3⟩
    have HX3 : Hid (Ext w w3) := HX2.out.trans hx3
    have HB3 := Lib.hid (HB2.out.ext hx3)
    clear hx3 HB2 m15 hgl
    cases hvl : validL l x with
    | false =>
      go_wp2_with fail
      go_ret
      exact ⟨rfl, HX3.out⟩
    | true =>
      obtain ⟨he4, he1, he200⟩ := enc_rows hvl
      have HER : Hid (encR l x = Lb.encL l x) := by show _ = _; unfold encR; rw [if_pos hvl]
      have HEN : Hid (encN' l x = 0) := by show _ = _; unfold encN'; rw [if_pos hvl]
      have HE2 := Lib.hid he200
      have HD1 := Lib.hid (dec_back hvl S)
      have HD2 := Lib.hid (fun k hk => dec_set hvl (k := k) hk)
      have HD3 := Lib.hid (fun k hk => dec_take hvl (k := k) hk)
      clear hvl d1 d2 he200 HVL
      go_wp2_with fail
      go_at_call 21
      refine (HLG.out _ HX3.out).mono ?_
      rintro e w4 ⟨b, rfl, hb, hx4⟩
      have HX4 : Hid (Ext w w4) := HX3.out.trans hx4
      have HB4 := Lib.hid (HB3.out.ext hx4)
      clear hx4 HB3
      cases b with
      | true =>
        go_wp2_with fail
        go_ret
        exact ⟨rfl, HX4.out⟩
      | false =>
        obtain ⟨h50, h200⟩ := hb rfl
        have H200 := Lib.hid h200
        clear hb h200 HLG
        go_wp2_with (refine wpList_loadR 29 _ rfl (by rfl) rfl (LabAt.of_box HB4.out).load ?_)
        go_at_call 11
        refine (HE.out _ HX4.out hn1).mono ?_
        rintro e w5 ⟨v5, rfl, ho5, hx5⟩
        rw [HER.out] at ho5
        rw [HEN.out]
        have HR5 := Lib.hid ho5.rows
        have HX5 : Hid (Ext w w5) := HX4.out.trans hx5
        have HB5 := Lib.hid (HB4.out.ext hx5)
        obtain ⟨a5, c5, rfl⟩ := ho5.shape
        clear ho5 hx5 HB4 HER HEN HE
        generalize Lb.encL l x = EL at *
        obtain ⟨N, hN⟩ : ∃ N, EL.length = N := ⟨_, rfl⟩
        have HNN := Lib.hid hN
        rw [hN] at he4 he1 HR5 HD2 HD3 ⊢
        clear hN
        have e1 : ((N : Int) == 0) = false := by rw [beq_eq_false_iff_ne]; omega
        have HRW := Lib.hid (HRS.out.ext HX5.out)
        have hlA : (EL ++ S).length ≤ 60 := by rw [List.length_append, HNN.out]; omega
        have HLA : Hid (∀ r, r ∈ EL ++ S → r.length ≤ 200) := fun r hr => by
          rcases List.mem_append.1 hr with h' | h'
          · exact HE2.out r h'
          · exact H200.out r h'
        go_wp2_with (at_builtin; refine Classical.byContradiction (fun hN => ?_))
        refine hN ?_
        clear hN
        refine wpList_append_rows rfl _ _ rfl w5 _ _ [] EL rfl (OwnR.lit (Ext.refl _)) rfl HR5.out (by rw [HNN.out]; simp; omega) ?_
        intro v6 w6 ho6 hx6
        rw [List.nil_append] at ho6
        have HO6 := Lib.hid ho6
        clear ho6 hx6
        go_wp2_with (at_builtin; refine Classical.byContradiction (fun hN => ?_))
        refine hN ?_
        clear hN
        refine wpList_append_rows rfl _ _ rfl w5 _ _ EL S rfl HO6.out rfl HRW.out (by rw [HNN.out]; omega) ?_
        intro v7 w7 ho7 hx7
        have HR7 := Lib.hid ho7.rows
        have HX7 : Hid (Ext w w7) := HX5.out.trans hx7
        have HB7 := Lib.hid (HB5.out.ext hx7)
        have HR57 := Lib.hid (HR5.out.ext hx7)
        clear ho7 hx7 HO6 HB5
        go_wp2_with fail
        go_at_call 22
        refine (decode_any v7 (EL ++ S) _ hlA HLA.out HR7.out).mono ?_
        intro e w8 hde
        obtain ⟨dv8, rfl, hd8, hx8⟩ := decEnd_some hde HD1.out
        obtain ⟨a8, c8, rfl⟩ := hd8.shape
        have HX8 : Hid (Ext w w8) := HX7.out.trans hx8
        have HB8 := Lib.hid (HB7.out.ext hx8)
        have HR8 := Lib.hid (HR57.out.ext hx8)
        have HD8 := Lib.hid hd8
        rw [HN.out] at HD8
        have hln : Value.slice a8 x.length c8 = .slice a8 n c8 := by rw [HN.out]
        rw [hln]
        clear hd8 hx8 HB7 HR57 HR7 HLA hlA hde hln
        go_upto_region 9 with (refine wpList_store_lab3 (l := l) (d := .slice a8 n c8) _ _ rfl (by rfl) rfl rfl (BoxAt.new _ _ _) rfl rfl ?_; intro w9 hg9 hb9)
        have hx9 : Ext w8 w9 := (Ext.alloc _ _).grown hg9 (Ext.alloc _ _).size (fun q hq => by cases hq; exact Nat.le_refl _)
        have HX9 : Hid (Ext w w9) := HX8.out.trans hx9
        have HB9 := Lib.hid (HB8.out.ext hx9)
        have HBX := Lib.hid hb9
        have HR9 := Lib.hid (HR8.out.ext hx9)
        have HSA := Lib.hid (same_any l l (.slice a8 n c8) (.slice ad n cd) x x w9 (by rw [HN.out]; omega) (by rw [HN.out]; omega) (HD8.out.ext hx9) (HDX.out.ext HX9.out))
        rw [sameB_refl] at HSA
        clear hg9 hb9 hx9 HB8 HD8 HR8
        go_wp2_with (first | (refine wpList_loadR 29 _ rfl (by rfl) rfl (LabAt.of_box HBX.out).load ?_) | (refine wpList_loadR 29 _ rfl (by rfl) rfl (LabAt.of_box HB9.out).load ?_))
        go_at_call 24
        refine HSA.out.mono ?_
        rintro e w10 ⟨rfl, hx10⟩
        have HX10 : Hid (Ext w w10) := HX9.out.trans hx10
        have HR10 := Lib.hid (HR9.out.ext hx10)
        clear hx10 HR9 HB9 HBX HSA
        go_wp2_with (at_builtin; refine Classical.byContradiction (fun hN => ?_))
        refine hN ?_
        clear hN
        refine wpList_append_rows rfl _ _ rfl w10 _ _ [] EL rfl (OwnR.lit (Ext.refl _)) rfl HR10.out (by rw [HNN.out]; simp; omega) ?_
        intro v11 w11 ho11 hx11
        rw [List.nil_append] at ho11
        obtain ⟨k, hk⟩ : ∃ k, Z % N = k := ⟨_, rfl⟩
        have hkN : k < N := by rw [← hk]; exact Nat.mod_lt _ (by omega)
        have hm1 : ((Z : Int) % (N : Int)) = (k : Int) := by rw [← hk]; simp
        have hm2 : (Z : Int).tmod (N : Int) = (k : Int) := (Int.tmod_eq_emod_of_nonneg (by omega)).trans hm1
        obtain ⟨g, c, hv, hgW, hgl, hfz, hput⟩ := ho11.form (by rw [HNN.out]; omega)
        rw [HNN.out] at hv
        subst hv
        obtain ⟨⟨u, hcu⟩, hrw, hxs⟩ := hput k (by rw [HNN.out]; exact hkN)
        have HRS2 := Lib.hid hrw
        have HX12 : Hid (Ext w (w11.setCell ⟨g, k, none⟩ (.slice none 0 0))) := HX10.out.trans hxs
        have HR12 := Lib.hid (HR10.out.ext hxs)
        have hfk := hfz k
        have hkI : (k : Int) < (N : Int) := by omega
        have hk0 : (0 : Int) ≤ (k : Int) := by omega
        clear hk hrw hxs hput hfz ho11 hx11 HR10
        go_upto_region 13 with fail
        generalize w11.setCell ⟨g, k, none⟩ (.slice none 0 0) = w12 at *
        clear hcu hfk hgl hgW
        have HL3 : Hid (∀ r, r ∈ EL.set k [] → r.length ≤ 200) := fun r hr => by
          rcases List.mem_or_eq_of_mem_set hr with h' | h'
          · exact HE2.out r h'
          · rw [h']; decide
        have hNS : (EL.set k []).length ≤ 60 := by rw [List.length_set, HNN.out]; omega
        have HST := Lib.hid (HD2.out k hkN)
        generalize EL.set k [] = EK at *
        go_wp2_with fail
        go_at_call 22
        refine (decode_any _ EK _ hNS HL3.out HRS2.out).mono ?_
        intro e w13 hde
        obtain ⟨dv13, rfl, hd13, hx13⟩ := decEnd_none hde HST.out
        obtain ⟨a13, c13, hsh⟩ := hd13.shape
        subst hsh
        have HX13 : Hid (Ext w w13) := HX12.out.trans hx13
        have HR13 := Lib.hid (HR12.out.ext hx13)
        clear hd13 hx13 hde HR12 HL3 hNS HST HRS2
        go_upto_region 14 with (refine wpList_store_lab3 (l := lz) (d := .slice a13 ([] : List Bool).length c13) _ _ rfl (by rfl) rfl rfl (BoxAt.new _ _ _) rfl rfl ?_; intro w14 hg14 hb14)
        have hx14 : Ext w13 w14 := (Ext.alloc _ _).grown hg14 (Ext.alloc _ _).size (fun q hq => by cases hq; exact Nat.le_refl _)
        have HX14 : Hid (Ext w w14) := HX13.out.trans hx14
        have HR14 := Lib.hid (HR13.out.ext hx14)
        clear hg14 hb14 hx14 HR13
        have HRT := Lib.hid (HR14.out.take k (by omega))
        have HST := Lib.hid (HD3.out k hkN)
        have HL4 : Hid (∀ r, r ∈ EL.take k → r.length ≤ 200) := fun r hr => HE2.out r (List.mem_of_mem_take hr)
        have hNT : (EL.take k).length ≤ 60 := by rw [List.length_take, HNN.out]; omega
        have hc5 : N ≤ c5 := by obtain ⟨a9, c9, e9, h9⟩ := HR14.out.shape; injection e9 with _ e10 e11; rw [HNN.out] at h9; omega
        generalize EL.take k = EK at *
        go_wp2_with fail
        go_at_call 22
        refine (decode_any _ EK _ hNT HL4.out HRT.out).mono ?_
        intro e w15 hde
        obtain ⟨dv15, rfl, hd15, hx15⟩ := decEnd_none hde HST.out
        obtain ⟨a15, c15, hsh⟩ := hd15.shape
        subst hsh
        have HX15 : Hid (Ext w w15) := HX14.out.trans hx15
        clear hd15 hx15 hde
        go_upto_region 15 with (refine wpList_store_lab3 (l := lz) (d := .slice a15 ([] : List Bool).length c15) _ _ rfl (by rfl) rfl rfl (BoxAt.new _ _ _) rfl rfl ?_; intro w16 hg16 hb16)
        have hx16 : Ext w15 w16 := (Ext.alloc _ _).grown hg16 (Ext.alloc _ _).size (fun q hq => by cases hq; exact Nat.le_refl _)
        have HX16 : Hid (Ext w w16) := HX15.out.trans hx16
        clear hg16 hb16 hx16
        go_wp2_with fail
        go_ret
        exact ⟨rfl, HX16.out⟩
end Go.Proofs.Ythjcdikpomlpmaa
