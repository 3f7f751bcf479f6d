/-
  Part 13 of the proof.
-/
import Derived.Test.YtjabgpejmnpamaaGreatDoorY10
set_option linter.unusedVariables false
namespace Go.Proofs.YtjabgpejmnpamaaGreatDoor
open Go.RowKit
attribute [local go_sem] eq_un wrap_ub
theorem rpfix_passE {P : Program} {l : List Oper} {Q : Exit → Act → World → Prop} {i : Nat} {o : Oper} {r : List (Nat × Bool)} {S : World → Prop} {a : Act} {w : World} (ho : nth l i = some o) (hw : Region.wanted o (yielded l.toArray a.tmps) = false) (hS : S w)
    (k : wpFix P l Q r S (a.put o.dst undef) w) : wpFix P l Q ((i, false) :: r) S a w := ord_passE (nth_get ho) hw hS k
def gP (l : List (BitVec 8)) : BitVec 64 := if l.length < 25 then 0#64 else unle (l.take 8)
def iP (l : List (BitVec 8)) : BitVec 64 := if l.length < 25 then 0#64 else unle ((l.drop 8).take 4)
def mP (l : List (BitVec 8)) : BitVec 64 := if l.length < 25 then 0#64 else unle ((l.drop 12).take 4)
def cP (l : List (BitVec 8)) : List (BitVec 8) := if l.length < 25 then [] else (l.drop 17).take (l.length - 25)
def okP (l : List (BitVec 8)) : Bool := decide (25 ≤ l.length) && decide ((l.getD 16 0#8).toNat = l.length - 25) && decide (l.length - 25 ≤ 32) && decide (unle (l.drop (l.length - 8)) = Crc.sum (l.take (l.length - 8)))
def rpParseEnd (W : World) (v : Value) (l : List (BitVec 8)) (e : Ending) (w' : World) : Prop :=
  ∃ vc, e = .returned (.tuple #[.agg #[encU (gP l), encU (iP l), encU (mP l), vc], .bool (okP l)]) ∧ (∀ x, SliceAt encB x v l → SliceAt encB x vc (cP l)) ∧ Below W.heap.size W w'
theorem SliceAt.lies {α : Type} {enc : α → Value} {w : World} {b off n cap : Nat} {l : List α} (h : SliceAt enc w (.slice (some ⟨b, off, none⟩) n cap) l) (hl : 0 < l.length) : b < w.heap.size := by
  obtain ⟨b', off', h1, h2, _⟩ := h.get 0 hl
  cases h1; exact h2
def parsePosts (g i m : BitVec 64) (b o n c : Nat) (W : World) : Nat → List Value → Value → World → Prop := fun k u v w =>
  if k = 2 then v = encU g else if k = 5 then v = encU i else if k = 8 then v = encU m else
  if k = 12 then v = .agg #[encU g, encU i, encU m, .slice (some ⟨b, o, none⟩) n c] else
    ∃ q, v = .pointer (some ⟨q, 0, none⟩) ∧ W.heap.size ≤ q ∧ BoxAt w q #[.int .u64 0, .int .u64 0, .int .u64 0, .slice none 0 0] 106
set_option maxHeartbeats 4000000 in
theorem rpparse_any (v : Value) (l : List (BitVec 8)) (w : World) (hl : l.length ≤ 100000) (h : SliceAt encB w v l) :
    Calls Tryz.prog 140 #[v] w (rpParseEnd w v l) := by
  have HS := Lib.hid h
  obtain ⟨ad, cap, rfl, hca, hcell⟩ := h
  by_cases hshort : l.length < 25
  · have hF : Hid (gP l = 0#64 ∧ iP l = 0#64 ∧ mP l = 0#64 ∧ cP l = [] ∧ okP l = false) := by
      show _ ∧ _ ∧ _ ∧ _ ∧ _
      unfold gP iP mP cP okP
      rw [if_pos hshort, if_pos hshort, if_pos hshort, if_pos hshort, show decide (25 ≤ l.length) = false by rw [decide_eq_false_iff_not]; omega]
      simp
    go_enter Tryz.func140, Tryz.ntmps140
    go_wp2_with fail
    refine bodyPost_ret (v := .tuple #[.agg #[.int .u64 0, .int .u64 0, .int .u64 0, .slice none 0 0], .bool false]) ?_ rfl ?_
    · simp only [results, Tryz.results140]
      go_simp
    · obtain ⟨h1, h2, h3, h4, h5⟩ := hF.out
      unfold rpParseEnd
      rw [h1, h2, h3, h4, h5]
      exact ⟨_, rfl, fun _ _ => SliceAt.nil, Ext.alloc _ _⟩
  · obtain ⟨b, off, rfl, hb, hc⟩ : ∃ b off, ad = some ⟨b, off, none⟩ ∧ b < w.heap.size ∧ ∀ i (h : i < l.length), w.cell? ⟨b, off + i, none⟩ = some (encB l[i]) := by
      rcases hcell with ⟨h0, _⟩ | h0
      · rw [h0] at hshort; simp at hshort
      · exact h0
    obtain ⟨e, he⟩ : ∃ e, l.length = e + 8 := ⟨l.length - 8, by omega⟩
    have h16 := hc 16 (by omega)
    have hd16 : l[16]'(by omega) = l.getD 16 0#8 := (getD_in (by omega)).symm
    rw [hd16] at h16
    have H16 := Lib.hid h16
    have HE := Lib.hid he
    have hsub : (l.length : Int) - 8 = (e : Int) := by omega
    have hn9 : e + 8 ≤ 100000 := by omega
    have he17 : 17 ≤ e := by omega
    have hcap : e + 8 ≤ cap := by omega
    have k0 : ¬ cap = 0 := by omega
    have k8 : ¬ cap = 8 := by omega
    have k12 : ¬ cap = 12 := by omega
    have k17 : ¬ cap = 17 := by omega
    have ke : ¬ cap = e := by omega
    have HS0 := Lib.hid (HS.out.sub 0 8 cap (by omega) hb (by omega))
    have HS8 := Lib.hid (HS.out.sub 8 4 (cap - 8) (by omega) hb (by omega))
    have HS12 := Lib.hid (HS.out.sub 12 4 (cap - 12) (by omega) hb (by omega))
    have HS17 := Lib.hid (HS.out.sub 17 (e - 17) (cap - 17) (by omega) hb (by omega))
    have HSE := Lib.hid (HS.out.sub e 8 (cap - e) (by omega) hb (by omega))
    have HST := Lib.hid (HS.out.sub 0 e cap (by omega) hb (by omega))
    clear hc hcell hd16 h16 he
    have hlt : ¬ l.length < 25 := hshort
    have hltI : decide ((l.length : Int) < 25) = false := by rw [decide_eq_false_iff_not]; omega
    go_enter Tryz.func140, Tryz.ntmps140
    go_wp2_with fail
    have hxW : Ext w (w.alloc (.cells #[.int .u64 0, .int .u64 0, .int .u64 0, .slice none 0 0] 106)) := Ext.alloc _ _
    have HB0 : Hid (BoxAt (w.alloc (.cells #[.int .u64 0, .int .u64 0, .int .u64 0, .slice none 0 0] 106)) w.heap.size #[.int .u64 0, .int .u64 0, .int .u64 0, .slice none 0 0] 106) := BoxAt.new _ _ _
    generalize w.alloc (.cells #[.int .u64 0, .int .u64 0, .int .u64 0, .slice none 0 0] 106) = W at *
    have hz := HB0.out.lt
    have hgP : gP l = unle ((l.drop 0).take 8) := by unfold gP; rw [if_neg hlt, List.drop_zero]
    have hiP : iP l = unle ((l.drop 8).take 4) := by unfold iP; rw [if_neg hlt]
    have hmP : mP l = unle ((l.drop 12).take 4) := by unfold mP; rw [if_neg hlt]
    have hcP : cP l = (l.drop 17).take (e - 17) := by unfold cP; rw [if_neg hlt, HE.out]; rfl
    have HG := Lib.hid hgP
    have HI := Lib.hid hiP
    have HMm := Lib.hid hmP
    have HCp := Lib.hid hcP
    clear hgP hiP hmP hcP
    generalize hgn : gP l = gv at *
    generalize hin : iP l = iv at *
    generalize hmn : mP l = mv at *
    have HGN := Lib.hid hgn
    have HIN := Lib.hid hin
    have HMN := Lib.hid hmn
    clear hgn hin hmn
    have n4 : 12 - 8 = 4 := rfl
    refine wp_region_par [(0, true), (1, true), (3, true), (4, true), (6, true), (7, true), (9, true), (10, true), (11, true)] [(2, 15), (5, 18), (8, 21), (12, 25), (13, 5)] [(12, [2,5,8])] [] [(14, false)] (by kernel_rfl) (by kernel_rfl) ?_
    iterate 9 ((first
     | refine extK_move rfl rfl (by rfl) (by rfl) ?_
     | refine extK_assign rfl rfl (by rfl) (by rfl) ?_
     | refine extK_pick_t rfl rfl (by rfl) (by rfl) (by rfl) ?_
     | refine extK_pick_f rfl rfl (by rfl) (by rfl) (by rfl) ?_
     | (apply extK_take rfl (by rfl)
        · intro w' hS
          have hSc := hS.cells
          (try simp only [World.size_drew, World.cell?_drew] at hSc)
          go_simp
          (try simp (disch := omega) only [↓IntWalk.iteOmega])
          try rfl)
     | refine extK_pass rfl (by rfl) ?_); simp only [Act.put, setZa, setZ0, setZ1])
    refine extK_nil ?_
    refine ⟨parsePosts gv iv mv b (off + 17) (e - 17) (cap - 17) W, ?_, ?_, ?_⟩
    · exact ⟨fun _ _ _ _ e h => h, fun _ _ _ _ e h => h, fun _ _ _ _ e h => h, fun _ _ _ _ e h => h, fun _ _ _ _ e ⟨k, h1, h2, h3⟩ => ⟨k, h1, h2, h3.ext e⟩, trivial⟩
    · refine ⟨fun vals x hx hp => ⟨_, rfl, by rfl, fun K hK => ?_⟩, fun vals x hx hp => ⟨_, rfl, by rfl, fun K hK => ?_⟩, fun vals x hx hp => ⟨_, rfl, by rfl, fun K hK => ?_⟩, fun vals x hx hp => ⟨_, rfl, by rfl, fun K hK => ?_⟩, fun vals x hx hp => ⟨_, rfl, by rfl, fun K hK => ?_⟩, trivial⟩
      all_goals replace hx := (Ext.drew W).trans hx
      all_goals simp only [laidT, Act.put, setZa, setZ0, setZ1] at hK ⊢
      · go_simp
        go_at_call 189
        refine (number_as gv _ _ _ HG.out.symm (by simp <;> omega) (HS0.out.ext (hxW.trans hx))).mono ?_
        rintro e1 w2 ⟨rfl, rfl⟩
        exact hK _ _ (Ext.refl _) rfl (fun h => absurd h (by decide))
      · go_simp
        go_at_call 189
        refine (number_as iv _ _ _ HI.out.symm (by simp <;> omega) (HS8.out.ext (hxW.trans hx))).mono ?_
        rintro e1 w2 ⟨rfl, rfl⟩
        exact hK _ _ (Ext.refl _) rfl (fun h => absurd h (by decide))
      · go_simp
        go_at_call 189
        refine (number_as mv _ _ _ HMm.out.symm (by simp <;> omega) (HS12.out.ext (hxW.trans hx))).mono ?_
        rintro e1 w2 ⟨rfl, rfl⟩
        exact hK _ _ (Ext.refl _) rfl (fun h => absurd h (by decide))
      · have e2 : vals 2 = encU gv := hp.1
        have e5 : vals 5 = encU iv := hp.2.1
        have e8 : vals 8 = encU mv := hp.2.2.1
        simp only [e2, e5, e8] at hK ⊢
        go_simp
        exact hK _ _ (Ext.refl _) rfl (fun h => absurd h (by decide))
      · go_simp
        exact hK _ _ (Ext.alloc _ _) ⟨_, rfl, hx.size, heap_alloc_new _ _⟩ (fun h => absurd h (by decide))
    · intro vals w2 hx2 hp _ _
      replace hx2 := (Ext.drew W).trans hx2
      have e2 : vals 2 = encU gv := hp.1
      have e5 : vals 5 = encU iv := hp.2.1
      have e8 : vals 8 = encU mv := hp.2.2.1
      have e12 : vals 12 = .agg #[encU gv, encU iv, encU mv, .slice (some ⟨b, off + 17, none⟩) (e - 17) (cap - 17)] := hp.2.2.2.1
      obtain ⟨q, e13, hq, hbq⟩ : ∃ q, vals 13 = .pointer (some ⟨q, 0, none⟩) ∧ W.heap.size ≤ q ∧ BoxAt w2 q #[.int .u64 0, .int .u64 0, .int .u64 0, .slice none 0 0] 106 := hp.2.2.2.2.1
      simp only [laidT, Act.put, setZa, setZ0, setZ1]
      simp only [e2, e5, e8, e12, e13]
      have hgl := hbq.lt
      have hc0 := hbq.cell 0 rfl
      have hc1 := hbq.cell 1 rfl
      have hc2 := hbq.cell 2 rfl
      have hc3 := hbq.cell 3 rfl
      have hf := hbq.free
      have HBQ : Hid (BoxAt ((((w2.setCell ⟨q, 0, none⟩ (encU gv)).setCell ⟨q, 1, none⟩ (encU iv)).setCell ⟨q, 2, none⟩ (encU mv)).setCell ⟨q, 3, none⟩ (.slice (some ⟨b, off + 17, none⟩) (e - 17) (cap - 17))) q #[encU gv, encU iv, encU mv, .slice (some ⟨b, off + 17, none⟩) (e - 17) (cap - 17)] 106) := (((hbq.set 0 (encU gv)).set 1 (encU iv)).set 2 (encU mv)).set 3 (.slice (some ⟨b, off + 17, none⟩) (e - 17) (cap - 17))
      have HX3 := Lib.hid (bel_set (bel_set (bel_set (bel_set (Ext.below hx2) hq 0 (encU gv)) hq 1 (encU iv)) hq 2 (encU mv)) hq 3 (.slice (some ⟨b, off + 17, none⟩) (e - 17) (cap - 17)))
      clear hp e2 e5 e8 e12 e13 hbq
      (refine ext_last rfl (by rfl) (by kernel_rfl) (fun K hK => ?_)
       go_simp
       refine hK _ _ ?_
       clear hK K
       (try simp only [Act.put, setZa, setZ0, setZ1]))
      generalize (((w2.setCell ⟨q, 0, none⟩ (encU gv)).setCell ⟨q, 1, none⟩ (encU iv)).setCell ⟨q, 2, none⟩ (encU mv)).setCell ⟨q, 3, none⟩ (.slice (some ⟨b, off + 17, none⟩) (e - 17) (cap - 17)) = w3 at *
      have hs3 := HX3.out.size
      have hbc := HBQ.out
      have hc0 := hbc.cell 0 rfl
      have hc1 := hbc.cell 1 rfl
      have hc2 := hbc.cell 2 rfl
      have hc3 := hbc.cell 3 rfl
      have hgl := hbc.lt
      have hcW := below_cellsB HX3.out
      have hff : ∀ b o, b < W.heap.size → w3.frozen? ⟨b, o, none⟩ = W.frozen? ⟨b, o, none⟩ := fun b o h => World.frozen?_of_block (HX3.out.block b h)
      have hcw := hxW.cells
      have hf0 := HB0.out.free
      have hk0 := HB0.out.cell 0 rfl
      have hk1 := HB0.out.cell 1 rfl
      have hk2 := HB0.out.cell 2 rfl
      have hk3 := HB0.out.cell 3 rfl
      have h16 := H16.out
      have hbW : b < W.heap.size := by omega
      have hb3 : b < w3.heap.size := by omega
      have hz3 : w.heap.size < w3.heap.size := by omega
      have hqw : q ≠ w.heap.size := by omega
      have hbw : b ≠ w.heap.size := by omega
      have HX5 : Hid (Ext w w3) := hxW.trans HX3.out
      clear hbc
      generalize hx16 : l.getD 16 0#8 = x16 at *
      have HE16 : Hid (okP l = (decide (x16.toNat = e - 17) && decide (e - 17 ≤ 32) && decide (unle ((l.drop e).take 8) = Crc.sum ((l.drop 0).take e)))) := by
        show _ = _
        unfold okP
        rw [hx16, HE.out, show decide (25 ≤ e + 8) = true by rw [decide_eq_true_eq]; omega, Bool.true_and, show e + 8 - 25 = e - 17 by omega, show e + 8 - 8 = e by omega, List.drop_zero,
          List.take_of_length_le (l := l.drop e) (by rw [List.length_drop, HE.out]; omega)]
      clear hx16
      have hub : ub x16 = (x16.toNat : Int) := rfl
      have hwr : IntKind.i64.wrap (ub x16) = ub x16 := i64_id _ (by have := ub_bound x16; omega)
      by_cases hA : x16.toNat = e - 17
      · have ha : (ub x16 == ((e - 17 : Nat) : Int)) = true := by rw [beq_iff_eq, hub, hA]
        by_cases hB : e - 17 ≤ 32
        · have hbb : decide (((e - 17 : Nat) : Int) ≤ 32) = true := by rw [decide_eq_true_eq]; omega
          have hbn : decide (e - 17 ≤ 32) = true := by rw [decide_eq_true_eq]; exact hB
          have HOK : Hid (okP l = decide (unle ((l.drop e).take 8) = Crc.sum ((l.drop 0).take e))) := by show _ = _; rw [HE16.out, decide_eq_true hA, decide_eq_true hB]; rfl
          clear hA hub
          have hle8 : l.length - e = 8 := by have := HE.out; omega
          have hle9 : e + 8 - e = 8 := by omega
          generalize hxn : unle ((l.drop e).take 8) = xn at *
          generalize hxs : Crc.sum ((l.drop 0).take e) = xs at *
          have HXN := Lib.hid hxn
          have HXS := Lib.hid hxs
          clear hxn hxs
          go_wp2_with fail
          refine wp_region_fix (fun x => ∀ b o, b < w3.heap.size → b ≠ w.heap.size → x.cell? ⟨b, o, none⟩ = w3.cell? ⟨b, o, none⟩) [(0, true), (1, true), (2, true), (3, true), (4, true), (5, true), (6, true), (7, true), (8, true), (9, true), (10, true), (11, true), (12, true), (13, true), (14, true), (15, true), (16, true), (17, true), (18, true), (20, true), (21, true), (22, true), (19, false), (23, false), (24, true), (25, true), (26, false), (27, true)] (by kernel_rfl) (by kernel_rfl) ?_ ?_
          · exact fun b o _ _ => rfl
          iterate 22 ((first
           | refine fix_move rfl rfl (by rfl) (by rfl) ?_
           | (apply fix_take rfl (by rfl)
              · intro w' hSc
                go_simp
                (try simp (disch := omega) only [↓IntWalk.iteOmega])
                try rfl)
           | refine fix_pass rfl (by rfl) ?_); simp only [Act.put, setZa, setZ0, setZ1])
          (refine fix_do rfl (by rfl) (fun K hK => ?_)
           go_simp
           go_at_call 189
           refine (number_as xn _ _ _ HXN.out (by simp <;> omega) (HSE.out.ext (HX5.out.trans (Ext.drew _)))).mono ?_
           rintro e w' ⟨rfl, rfl⟩
           refine hK _ _ (fun b o _ _ => rfl) ?_
           clear hK K
           (try simp only [Act.put, setZa, setZ0, setZ1]))
          (refine fix_do rfl (by rfl) (fun K hK => ?_)
           go_simp
           go_at_call 45
           refine (rpsum_as xs _ _ _ HXS.out (by simp; unfold maxLen; omega) (HST.out.ext (HX5.out.trans (Ext.drew _)))).mono ?_
           rintro e w' ⟨rfl, rfl⟩
           refine hK _ _ (fun b o _ _ => rfl) ?_
           clear hK K
           (try simp only [Act.put, setZa, setZ0, setZ1]))
          iterate 2 ((first
           | refine fix_move rfl rfl (by rfl) (by rfl) ?_
           | (apply fix_take rfl (by rfl)
              · intro w' hSc
                go_simp
                (try simp (disch := omega) only [i64_id, u64_id, ↓IntWalk.iteOmega, Int.tdiv_eq_ediv_of_nonneg, Int.tmod_eq_emod_of_nonneg])
                try rfl)
           | refine fix_pass rfl (by rfl) ?_); simp only [Act.put, setZa, setZ0, setZ1])
          (refine fix_do rfl (by rfl) (fun K hK => ?_)
           go_simp
           refine hK _ _ (fun b o hb h1 => (set_block (Ne.symm h1)).trans ((set_block (Ne.symm h1)).trans ((set_block (Ne.symm h1)).trans (set_block (Ne.symm h1))))) ?_
           clear hK K
           (try simp only [Act.put, setZa, setZ0, setZ1]))
          iterate 1 ((first
           | refine fix_move rfl rfl (by rfl) (by rfl) ?_
           | (apply fix_take rfl (by rfl)
              · intro w' hSc
                go_simp
                (try simp (disch := omega) only [i64_id, u64_id, ↓IntWalk.iteOmega, Int.tdiv_eq_ediv_of_nonneg, Int.tmod_eq_emod_of_nonneg])
                try rfl)
           | refine fix_pass rfl (by rfl) ?_); simp only [Act.put, setZa, setZ0, setZ1])
          refine fix_nil ?_
          go_wp2_with fail
          refine bodyPost_ret (v := .tuple #[.agg #[encU gv, encU iv, encU mv, .slice (some ⟨b, off + 17, none⟩) (e - 17) (cap - 17)], .bool (decide (xn = xs))]) ?_ rfl ?_
          · simp only [results, Tryz.results140]
            go_simp
          · unfold rpParseEnd
            rw [HCp.out, HOK.out, HGN.out, HIN.out, HMN.out]
            have HB6 := (bel_set (bel_set (bel_set (bel_set (Ext.below (HX5.out.trans (Ext.drew w3))) (Nat.le_refl _) 0 (encU gv)) (Nat.le_refl _) 1 (encU iv)) (Nat.le_refl _) 2 (encU mv)) (Nat.le_refl _) 3 (.slice (some ⟨b, off + 17, none⟩) (e - 17) (cap - 17)))
            refine ⟨_, rfl, fun x hx => hx.sub 17 (e - 17) (cap - 17) (by have := HE.out; omega) (hx.lies (by have := HE.out; omega)) (by omega), HB6⟩
        · have hbb : decide (((e - 17 : Nat) : Int) ≤ 32) = false := by rw [decide_eq_false_iff_not]; omega
          have hbn : decide (e - 17 ≤ 32) = false := by rw [decide_eq_false_iff_not]; exact hB
          have HOK : Hid (okP l = false) := by show _ = _; rw [HE16.out, decide_eq_false hB]; simp
          clear hA hub
          go_wp2_with fail
          refine wp_region_fix (fun x => ∀ b o, b < w3.heap.size → b ≠ w.heap.size → x.cell? ⟨b, o, none⟩ = w3.cell? ⟨b, o, none⟩) [(0, true), (1, true), (2, true), (3, true), (4, true), (5, true), (6, true), (7, true), (8, true), (9, true), (10, true), (11, true), (12, true), (13, true), (14, true), (15, true), (16, true), (17, true), (18, true), (20, true), (21, true), (22, true), (19, false), (23, false), (24, true), (25, true), (26, false), (27, true)] (by kernel_rfl) (by kernel_rfl) ?_ ?_
          · exact fun b o _ _ => rfl
          iterate 22 ((first
           | refine fix_move rfl rfl (by rfl) (by rfl) ?_
           | (apply fix_take rfl (by rfl)
              · intro w' hSc
                go_simp
                (try simp (disch := omega) only [↓IntWalk.iteOmega])
                try rfl)
           | refine fix_pass rfl (by rfl) ?_); simp only [Act.put, setZa, setZ0, setZ1])
          (refine rpfix_passE rfl (by rfl) (fun b o _ _ => rfl) ?_; simp only [Act.put, setZa, setZ0, setZ1])
          (refine rpfix_passE rfl (by rfl) (fun b o _ _ => rfl) ?_; simp only [Act.put, setZa, setZ0, setZ1])
          iterate 2 ((first
           | refine fix_move rfl rfl (by rfl) (by rfl) ?_
           | (apply fix_take rfl (by rfl)
              · intro w' hSc
                go_simp
                (try simp (disch := omega) only [i64_id, u64_id, ↓IntWalk.iteOmega, Int.tdiv_eq_ediv_of_nonneg, Int.tmod_eq_emod_of_nonneg])
                try rfl)
           | refine fix_pass rfl (by rfl) ?_); simp only [Act.put, setZa, setZ0, setZ1])
          (refine fix_do rfl (by rfl) (fun K hK => ?_)
           go_simp
           refine hK _ _ (fun b o hb h1 => (set_block (Ne.symm h1)).trans ((set_block (Ne.symm h1)).trans ((set_block (Ne.symm h1)).trans (set_block (Ne.symm h1))))) ?_
           clear hK K
           (try simp only [Act.put, setZa, setZ0, setZ1]))
          iterate 1 ((first
           | refine fix_move rfl rfl (by rfl) (by rfl) ?_
           | (apply fix_take rfl (by rfl)
              · intro w' hSc
                go_simp
                (try simp (disch := omega) only [i64_id, u64_id, ↓IntWalk.iteOmega, Int.tdiv_eq_ediv_of_nonneg, Int.tmod_eq_emod_of_nonneg])
                try rfl)
           | refine fix_pass rfl (by rfl) ?_); simp only [Act.put, setZa, setZ0, setZ1])
          refine fix_nil ?_
          go_wp2_with fail
          refine bodyPost_ret (v := .tuple #[.agg #[encU gv, encU iv, encU mv, .slice (some ⟨b, off + 17, none⟩) (e - 17) (cap - 17)], .bool false]) ?_ rfl ?_
          · simp only [results, Tryz.results140]
            go_simp
          · unfold rpParseEnd
            rw [HCp.out, HOK.out, HGN.out, HIN.out, HMN.out]
            have HB6 := (bel_set (bel_set (bel_set (bel_set (Ext.below (HX5.out.trans (Ext.drew w3))) (Nat.le_refl _) 0 (encU gv)) (Nat.le_refl _) 1 (encU iv)) (Nat.le_refl _) 2 (encU mv)) (Nat.le_refl _) 3 (.slice (some ⟨b, off + 17, none⟩) (e - 17) (cap - 17)))
            refine ⟨_, rfl, fun x hx => hx.sub 17 (e - 17) (cap - 17) (by have := HE.out; omega) (hx.lies (by have := HE.out; omega)) (by omega), HB6⟩
      · have ha : (ub x16 == ((e - 17 : Nat) : Int)) = false := by rw [beq_eq_false_iff_ne, hub]; omega
        have HOK : Hid (okP l = false) := by show _ = _; rw [HE16.out, decide_eq_false hA]; simp
        clear hA hub
        go_wp2_with fail
        refine wp_region_fix (fun x => ∀ b o, b < w3.heap.size → b ≠ w.heap.size → x.cell? ⟨b, o, none⟩ = w3.cell? ⟨b, o, none⟩) [(0, true), (1, true), (2, true), (3, true), (4, true), (5, true), (6, true), (7, true), (8, true), (9, true), (10, true), (11, true), (12, true), (13, true), (14, true), (15, true), (16, true), (17, true), (18, true), (20, true), (21, true), (22, true), (19, false), (23, false), (24, true), (25, true), (26, false), (27, true)] (by kernel_rfl) (by kernel_rfl) ?_ ?_
        · exact fun b o _ _ => rfl
        iterate 22 ((first
         | refine fix_move rfl rfl (by rfl) (by rfl) ?_
         | (apply fix_take rfl (by rfl)
            · intro w' hSc
              go_simp
              (try simp (disch := omega) only [↓IntWalk.iteOmega])
              try rfl)
         | refine fix_pass rfl (by rfl) ?_); simp only [Act.put, setZa, setZ0, setZ1])
        (refine rpfix_passE rfl (by rfl) (fun b o _ _ => rfl) ?_; simp only [Act.put, setZa, setZ0, setZ1])
        (refine rpfix_passE rfl (by rfl) (fun b o _ _ => rfl) ?_; simp only [Act.put, setZa, setZ0, setZ1])
        iterate 2 ((first
         | refine fix_move rfl rfl (by rfl) (by rfl) ?_
         | (apply fix_take rfl (by rfl)
            · intro w' hSc
              go_simp
              (try simp (disch := omega) only [i64_id, u64_id, ↓IntWalk.iteOmega, Int.tdiv_eq_ediv_of_nonneg, Int.tmod_eq_emod_of_nonneg])
              try rfl)
         | refine fix_pass rfl (by rfl) ?_); simp only [Act.put, setZa, setZ0, setZ1])
        (refine fix_do rfl (by rfl) (fun K hK => ?_)
         go_simp
         refine hK _ _ (fun b o hb h1 => (set_block (Ne.symm h1)).trans ((set_block (Ne.symm h1)).trans ((set_block (Ne.symm h1)).trans (set_block (Ne.symm h1))))) ?_
         clear hK K
         (try simp only [Act.put, setZa, setZ0, setZ1]))
        iterate 1 ((first
         | refine fix_move rfl rfl (by rfl) (by rfl) ?_
         | (apply fix_take rfl (by rfl)
            · intro w' hSc
              go_simp
              (try simp (disch := omega) only [i64_id, u64_id, ↓IntWalk.iteOmega, Int.tdiv_eq_ediv_of_nonneg, Int.tmod_eq_emod_of_nonneg])
              try rfl)
         | refine fix_pass rfl (by rfl) ?_); simp only [Act.put, setZa, setZ0, setZ1])
        refine fix_nil ?_
        go_wp2_with fail
        refine bodyPost_ret (v := .tuple #[.agg #[encU gv, encU iv, encU mv, .slice (some ⟨b, off + 17, none⟩) (e - 17) (cap - 17)], .bool false]) ?_ rfl ?_
        · simp only [results, Tryz.results140]
          go_simp
        · unfold rpParseEnd
          rw [HCp.out, HOK.out, HGN.out, HIN.out, HMN.out]
          have HB6 := (bel_set (bel_set (bel_set (bel_set (Ext.below (HX5.out.trans (Ext.drew w3))) (Nat.le_refl _) 0 (encU gv)) (Nat.le_refl _) 1 (encU iv)) (Nat.le_refl _) 2 (encU mv)) (Nat.le_refl _) 3 (.slice (some ⟨b, off + 17, none⟩) (e - 17) (cap - 17)))
          refine ⟨_, rfl, fun x hx => hx.sub 17 (e - 17) (cap - 17) (by have := HE.out; omega) (hx.lies (by have := HE.out; omega)) (by omega), HB6⟩
end Go.Proofs.YtjabgpejmnpamaaGreatDoor
