/-
  Chapter 31 (election): the walk of ElectionInterrupted.
-/
import Derived.Test.YtpmbbeflgifgaaaElM
import Derived.Test.YtpmbbeflgifgaaaElJ
namespace Go.Proofs.Ytpmbbeflgifgaaa
open Go.ChangeShapes Go.WideShapes Go.ChangeAt Go.RowKit
set_option linter.unusedVariables false

theorem nextV {l : Lab} {s : BitVec 64} (h : l.gen.toNat + 1 < 4294967296) : encU (nextL l s).gen = .int .u64 ((l.gen.toNat : Int) + 1) ∧ encU (nextL l s).root = .int .u64 ((s.toNat : Int) / 2) := by
  have e1 : un (nextL l s).gen = ((nextL l s).gen.toNat : Int) := rfl
  have e2 : un (nextL l s).root = ((nextL l s).root.toNat : Int) := rfl
  constructor
  · show Value.int .u64 (un _) = _
    rw [e1, next_gen h]; rfl
  · show Value.int .u64 (un _) = _
    have : (nextL l s).root.toNat = s.toNat / 2 := by
      show (BitVec.ofNat 64 (s.toNat / 2)).toNat = _
      rw [BitVec.toNat_ofNat, Nat.mod_eq_of_lt (by have := s.isLt; omega)]
    rw [e2, this]; rfl
def intPs (l : Lab) (s : BitVec 64) (dv dv' : Value) (done : List Bool) (k : Nat) : List LP := (List.range k).map fun i => if done.getD i false then (oneL (nextL l s) i, dv') else (oneL l i, dv)
theorem intPs_len (l : Lab) (s : BitVec 64) (dv dv' : Value) (done : List Bool) (k : Nat) : (intPs l s dv dv' done k).length = k := by unfold intPs; simp
theorem intPs_next (l : Lab) (s : BitVec 64) (dv dv' : Value) (done : List Bool) (k : Nat) : intPs l s dv dv' done (k + 1) = intPs l s dv dv' done k ++ [if done.getD k false then (oneL (nextL l s) k, dv') else (oneL l k, dv)] := by unfold intPs; rw [List.range_succ, List.map_append]; rfl
theorem intRd_eq (x lost : List Bool) : intRd x lost = missBs (nextX x lost) x.length := rfl
def xA (x lost : List Bool) (d : Nat) : List Bool := (List.range x.length).map fun i => if i < d then x.getD i false || lost.getD i false else x.getD i false
theorem xA_len (x lost : List Bool) (d : Nat) : (xA x lost d).length = x.length := by unfold xA; simp
theorem xA_zero (x lost : List Bool) : xA x lost 0 = x := by
  apply List.ext_getElem (by rw [xA_len])
  intro i h1 h2
  simp only [xA, List.getElem_map, List.getElem_range, Nat.not_lt_zero, if_false]
  exact getD_in h2
theorem xA_all (x lost : List Bool) : xA x lost x.length = nextX x lost := by
  unfold xA nextX
  apply List.map_congr_left
  intro i hi
  rw [List.mem_range] at hi
  rw [if_pos hi]
theorem xA_at {x lost : List Bool} {d : Nat} (h : d < x.length) (h2 : d < (xA x lost d).length) : (xA x lost d)[d] = x.getD d false := by
  simp only [xA, List.getElem_map, List.getElem_range, Nat.lt_irrefl, if_false]
theorem xA_next {x lost : List Bool} {d : Nat} (h : d < x.length) : (xA x lost d).set d (x.getD d false || lost.getD d false) = xA x lost (d + 1) := by
  apply List.ext_getElem (by rw [List.length_set, xA_len, xA_len])
  intro i h1 h2
  rw [List.getElem_set]
  by_cases e : d = i
  · subst e
    rw [if_pos rfl]
    simp only [xA, List.getElem_map, List.getElem_range]
    rw [if_pos (by omega)]
  · rw [if_neg e]
    simp only [xA, List.getElem_map, List.getElem_range]
    by_cases h3 : i < d
    · rw [if_pos h3, if_pos (by omega)]
    · rw [if_neg h3, if_neg (by omega)]
set_option maxRecDepth 100000 in
set_option maxHeartbeats 4000000 in
theorem electionInterrupted_walk (l : Lab) (dv vd vl : Value) (x done lost : List Bool) (s : BitVec 64) (w : World) (hmx : x.length ≤ maxLen) (hmd : done.length ≤ maxLen) (hml : lost.length ≤ maxLen) (hx : SliceAt Value.bool w dv x) (hd : SliceAt Value.bool w vd done) (hl : SliceAt Value.bool w vl lost) :
    Calls Try.prog 6 #[labV l dv, vd, vl, encU s] w fun e w' => e = .returned (.bool true) ∧ Below w.heap.size w w' := by
  obtain ⟨i0, hI, hI0, hI1, hI2⟩ := info_parts infoBo
  obtain ⟨ax, cx, rfl⟩ := hx.shape
  obtain ⟨ad, cd, rfl⟩ := hd.shape
  obtain ⟨al, cl, rfl⟩ := hl.shape
  unfold maxLen at hmx hmd hml
  have HX := Lib.hid hx
  have HDN := Lib.hid hd
  have HLS := Lib.hid hl
  obtain ⟨n, hn⟩ : ∃ n, x.length = n := ⟨_, rfl⟩
  obtain ⟨p, hp⟩ : ∃ p, done.length = p := ⟨_, rfl⟩
  obtain ⟨r, hr⟩ : ∃ r, lost.length = r := ⟨_, rfl⟩
  have HN := Lib.hid hn
  have HPN := Lib.hid hp
  have HRN := Lib.hid hr
  rw [hn] at HX hmx ⊢
  rw [hp] at HDN hmd ⊢
  rw [hr] at HLS hml ⊢
  have HB0 : Hid (BoxAt (w.alloc (.cells (labA l (.slice ax n cx)) 32)) w.heap.size (labA l (.slice ax n cx)) 32) := BoxAt.new _ _ _
  have HE0 : Hid (Ext w (w.alloc (.cells (labA l (.slice ax n cx)) 32))) := Ext.alloc _ _
  clear hx hd hl hn hp hr
  go_enter Try.func6, Try.ntmps6
  go_wp2_with fail
  go_at_call 9
  refine (awake_any _).mono ?_
  rintro e w1 ⟨rfl, hb1⟩
  have HX1 : Hid (Ext w w1) := HE0.out.trans hb1
  have hbx := HB0.out.ext hb1
  have HB1 := Lib.hid hbx
  have c15 := hbx.cell 15 (v := .slice ax n cx) rfl
  have hl1 := hbx.lt
  clear hb1 hbx
  by_cases h60 : 60 < n
  · have d1 : decide ((60 : Int) < (n : Int)) = true := by rw [decide_eq_true_iff]; omega
    have d2 : decide (60 < n) = true := by rw [decide_eq_true_iff]; exact h60
    go_wp2_with fail
    go_ret
    exact ⟨rfl, HX1.out⟩
  have d1 : decide ((60 : Int) < (n : Int)) = false := by rw [decide_eq_false_iff_not]; omega
  have d2 : decide (60 < n) = false := by rw [decide_eq_false_iff_not]; exact h60
  have HV := Lib.hid (rvalid_any l (.slice ax n cx) x w1 (by rw [HN.out]; omega) (HX.out.ext HX1.out))
  clear hmx
  go_wp2_with (refine wpList_loadR 32 _ rfl (by rfl) rfl (LabAt.of_box HB1.out).load ?_)
  go_at_call 16
  refine HV.out.mono ?_
  rintro e w2 ⟨rfl, hb2⟩
  have HX2 : Hid (Ext w w2) := HX1.out.trans hb2
  have hbx := HB1.out.ext hb2
  have HB2 := Lib.hid hbx
  clear c15 hl1
  have c15 := hbx.cell 15 (v := .slice ax n cx) rfl
  have c2 := hbx.cell 2 (v := .int .u64 (l.gen.toNat : Nat)) rfl
  have hl2 := hbx.lt
  clear hb2 hbx d1 d2
  cases hvl : validL l x with
  | false =>
    go_wp2_with fail
    go_ret
    exact ⟨rfl, HX2.out⟩
  | true =>
    have hvf := valid_facts hvl
    have hgb : l.gen.toNat ≤ 4294967295 := hvf.2.2.2.2.2.2.2.2.2
    obtain ⟨G, hG⟩ : ∃ G, l.gen.toNat = G := ⟨_, rfl⟩
    have HGG := Lib.hid hG
    have HVL := Lib.hid hvl
    rw [hG] at c2 hgb
    have hgu : IntKind.u64.wrap ((G : Int) + 1) = (G : Int) + 1 := u64_id _ ⟨by omega, by omega⟩
    clear hvf hG hvl
    by_cases hg : 4294967296 ≤ G + 1
    · have d1 : decide ((4294967296 : Int) ≤ (G : Int) + 1) = true := by rw [decide_eq_true_iff]; omega
      have d2 : decide ((4294967295 : Int) ≤ (G : Int)) = true := by rw [decide_eq_true_iff]; omega
      go_wp2_with fail
      go_ret
      exact ⟨rfl, HX2.out⟩
    have d1 : decide ((4294967296 : Int) ≤ (G : Int) + 1) = false := by rw [decide_eq_false_iff_not]; omega
    have d1' : decide ((4294967295 : Int) ≤ (G : Int)) = false := by rw [decide_eq_false_iff_not]; omega
    by_cases hpn : p < n
    · have d3 : decide ((p : Int) < (n : Int)) = true := by rw [decide_eq_true_iff]; omega
      have d4 : decide (p < n) = true := by rw [decide_eq_true_iff]; exact hpn
      go_wp2_with fail
      go_ret
      exact ⟨rfl, HX2.out⟩
    have d3 : decide ((p : Int) < (n : Int)) = false := by rw [decide_eq_false_iff_not]; omega
    have d4 : decide (p < n) = false := by rw [decide_eq_false_iff_not]; exact hpn
    by_cases hrn : r < n
    · have d5 : decide ((r : Int) < (n : Int)) = true := by rw [decide_eq_true_iff]; omega
      have d6 : decide (r < n) = true := by rw [decide_eq_true_iff]; exact hrn
      go_wp2_with fail
      go_ret
      exact ⟨rfl, HX2.out⟩
    have d5 : decide ((r : Int) < (n : Int)) = false := by rw [decide_eq_false_iff_not]; omega
    have d6 : decide (r < n) = false := by rw [decide_eq_false_iff_not]; exact hrn
    go_upto_region 6 with (first | (refine wpList_loadR 32 _ rfl (by rfl) rfl (LabAt.of_box HB2.out).load ?_) | (refine wpList_store_lab (w0 := w2) (l := l) (d := .slice ax n cx) _ _ rfl (by rfl) rfl rfl (BoxAt.new _ _ _) rfl rfl (Ext.alloc _ _) (Nat.le_refl _) ?_; intro w3 hx3 hb3 hs3))
    clear d1 d1' d3 d4 d5 d6 c15 c2 hl2
    have hbo := HB2.out.ext hx3
    have c2 := hbo.cell 2 (v := .int .u64 (G : Nat)) (by rw [← HGG.out]; rfl)
    have hlo := hbo.lt
    have n2 := hb3.cell 2 (v := encU l.gen) rfl
    have hln := hb3.lt
    have f2 := hb3.free 2
    have hun : 0 ≤ un s := by unfold un; exact Int.natCast_nonneg _
    have hunb := un_bound s
    have HB3 := Lib.hid hb3
    have HX3 := Lib.hid hx3
    have HBO := Lib.hid hbo
    clear hb3 hx3 hs3 hbo
    go_wp2_with fail
    have hne : w2.heap.size ≠ w.heap.size := by have := HB2.out.lt; omega
    refine wp_region_fix (fun w' => w'.cell? ⟨w.heap.size, 2, none⟩ = some (.int .u64 G)) [(0, true), (1, true), (2, true), (3, true), (4, true), (5, true), (6, true), (7, true), (8, true), (9, false), (10, true), (11, false), (12, true), (13, false), (14, true), (15, false)] (by kernel_rfl) (by kernel_rfl) ?_ ?_
    · exact c2
    iterate 9 (first
     | (refine fix_move rfl rfl (by rfl) (by rfl) ?_; simp only [Act.put, List.setIfInBounds_toArray, List.set_cons_zero, List.set_cons_succ])
     | (apply fix_take rfl (by rfl)
        · intro w' hSc
          go_simp
          (try simp (disch := omega) only [i64_id, u64_id, ↓IntWalk.iteOmega, Int.tdiv_eq_ediv_of_nonneg, Int.tmod_eq_emod_of_nonneg])
          try rfl
        simp only [Act.put, List.setIfInBounds_toArray, List.set_cons_zero, List.set_cons_succ])
     | (refine fix_pass rfl (by rfl) ?_; simp only [Act.put, List.setIfInBounds_toArray, List.set_cons_zero, List.set_cons_succ]))
    refine fix_do rfl (by rfl) (fun K hK => ?_)
    go_simp
    have hbwa := (BoxAt.set HB3.out 2 (.int .u64 ((G : Int) + 1))).ext (Ext.drew _)
    have howa := (BoxAt.set_off HBO.out (Ne.symm hne) 2 (.int .u64 ((G : Int) + 1))).ext (Ext.drew _)
    have hxwa : Ext w2 (w3.setCell ⟨w2.heap.size, 2, none⟩ (.int .u64 ((G : Int) + 1))).drew := (Ext.setOwn HX3.out (Nat.le_refl _)).trans (Ext.drew _)
    generalize (w3.setCell ⟨w2.heap.size, 2, none⟩ (.int .u64 ((G : Int) + 1))).drew = wa at *
    have n3 := hbwa.cell 3 (v := encU l.prev) rfl
    have f3 := hbwa.free 3
    refine hK _ _ (howa.cell 2 (v := .int .u64 G) (by rw [← HGG.out]; rfl)) ?_
    clear hK K
    have HBwa := Lib.hid hbwa
    have HOwa := Lib.hid howa
    have HXwa := Lib.hid hxwa
    clear hbwa howa hxwa
    (try simp only [Act.put, List.setIfInBounds_toArray, List.set_cons_zero, List.set_cons_succ])
    (first
     | (refine fix_move rfl rfl (by rfl) (by rfl) ?_; simp only [Act.put, List.setIfInBounds_toArray, List.set_cons_zero, List.set_cons_succ])
     | (apply fix_take rfl (by rfl)
        · intro w' hSc
          go_simp
          (try simp (disch := omega) only [i64_id, u64_id, ↓IntWalk.iteOmega, Int.tdiv_eq_ediv_of_nonneg, Int.tmod_eq_emod_of_nonneg])
          try rfl
        simp only [Act.put, List.setIfInBounds_toArray, List.set_cons_zero, List.set_cons_succ])
     | (refine fix_pass rfl (by rfl) ?_; simp only [Act.put, List.setIfInBounds_toArray, List.set_cons_zero, List.set_cons_succ]))
    refine fix_do rfl (by rfl) (fun K hK => ?_)
    go_simp
    have hbwb := BoxAt.set HBwa.out 3 (.int .u64 G)
    have howb := BoxAt.set_off HOwa.out (Ne.symm hne) 3 (.int .u64 G)
    have hxwb : Ext w2 (wa.setCell ⟨w2.heap.size, 3, none⟩ (.int .u64 G)) := Ext.setOwn HXwa.out (Nat.le_refl _)
    generalize wa.setCell ⟨w2.heap.size, 3, none⟩ (.int .u64 G) = wb at *
    have n17 := hbwb.cell 17 (v := encU l.sum) rfl
    have f17 := hbwb.free 17
    refine hK _ _ (howb.cell 2 (v := .int .u64 G) (by rw [← HGG.out]; rfl)) ?_
    clear hK K
    have HBwb := Lib.hid hbwb
    have HOwb := Lib.hid howb
    have HXwb := Lib.hid hxwb
    clear hbwb howb hxwb
    (try simp only [Act.put, List.setIfInBounds_toArray, List.set_cons_zero, List.set_cons_succ])
    (first
     | (refine fix_move rfl rfl (by rfl) (by rfl) ?_; simp only [Act.put, List.setIfInBounds_toArray, List.set_cons_zero, List.set_cons_succ])
     | (apply fix_take rfl (by rfl)
        · intro w' hSc
          go_simp
          (try simp (disch := omega) only [i64_id, u64_id, ↓IntWalk.iteOmega, Int.tdiv_eq_ediv_of_nonneg, Int.tmod_eq_emod_of_nonneg])
          try rfl
        simp only [Act.put, List.setIfInBounds_toArray, List.set_cons_zero, List.set_cons_succ])
     | (refine fix_pass rfl (by rfl) ?_; simp only [Act.put, List.setIfInBounds_toArray, List.set_cons_zero, List.set_cons_succ]))
    refine fix_do rfl (by rfl) (fun K hK => ?_)
    go_simp
    have hbwc := BoxAt.set HBwb.out 17 (encU s)
    have howc := BoxAt.set_off HOwb.out (Ne.symm hne) 17 (encU s)
    have hxwc : Ext w2 (wb.setCell ⟨w2.heap.size, 17, none⟩ (encU s)) := Ext.setOwn HXwb.out (Nat.le_refl _)
    generalize wb.setCell ⟨w2.heap.size, 17, none⟩ (encU s) = wc at *
    have n18 := hbwc.cell 18 (v := encU l.root) rfl
    have f18 := hbwc.free 18
    refine hK _ _ (howc.cell 2 (v := .int .u64 G) (by rw [← HGG.out]; rfl)) ?_
    clear hK K
    have HBwc := Lib.hid hbwc
    have HOwc := Lib.hid howc
    have HXwc := Lib.hid hxwc
    clear hbwc howc hxwc
    (try simp only [Act.put, List.setIfInBounds_toArray, List.set_cons_zero, List.set_cons_succ])
    (first
     | (refine fix_move rfl rfl (by rfl) (by rfl) ?_; simp only [Act.put, List.setIfInBounds_toArray, List.set_cons_zero, List.set_cons_succ])
     | (apply fix_take rfl (by rfl)
        · intro w' hSc
          go_simp
          (try simp (disch := omega) only [i64_id, u64_id, ↓IntWalk.iteOmega, Int.tdiv_eq_ediv_of_nonneg, Int.tmod_eq_emod_of_nonneg])
          try rfl
        simp only [Act.put, List.setIfInBounds_toArray, List.set_cons_zero, List.set_cons_succ])
     | (refine fix_pass rfl (by rfl) ?_; simp only [Act.put, List.setIfInBounds_toArray, List.set_cons_zero, List.set_cons_succ]))
    refine fix_last rfl (by rfl) (by kernel_rfl) (fun K hK => ?_)
    go_simp
    have eg : encU l.gen = .int .u64 (G : Int) := by rw [← HGG.out]; rfl
    have env := nextV (l := l) (s := s) (by rw [HGG.out]; omega)
    have HBN : Hid (BoxAt (wc.setCell ⟨w2.heap.size, 18, none⟩ (.int .u64 (un s / 2))) w2.heap.size (labA (nextL l s) (.slice ax n cx)) 32) := by
      have h := BoxAt.set HBwc.out 18 (.int .u64 (un s / 2))
      have e : labA (nextL l s) (.slice ax n cx) = (((((labA l (.slice ax n cx)).setIfInBounds 2 (.int .u64 ((G : Int) + 1))).setIfInBounds 3 (.int .u64 (G : Int))).setIfInBounds 17 (encU s)).setIfInBounds 18 (.int .u64 (un s / 2))) := by
        rw [HGG.out] at env
        show #[encU l.array, .int .i64 l.disk, encU (nextL l s).gen, encU l.gen, .int .i64 l.c.d, .int .i64 l.c.w, .int .i64 l.c.t, .int .i64 l.c.s, .int .i64 l.c.r, .int .i64 l.c.b, .int .i64 l.c.k, .int .i64 l.c.c, .int .i64 l.c.o, .int .i64 l.c.a, .int .i64 l.c.g, .slice ax n cx, .int .i64 l.blob, encU s, encU (nextL l s).root] = _
        rw [env.1, env.2, eg]; rfl
      show BoxAt _ _ _ _
      rw [e]; exact h
    have HBP := Lib.hid (BoxAt.set_off HOwc.out (Ne.symm hne) 18 (.int .u64 (un s / 2)))
    have HXD : Hid (Ext w2 (wc.setCell ⟨w2.heap.size, 18, none⟩ (.int .u64 (un s / 2)))) := Ext.setOwn HXwc.out (Nat.le_refl _)
    generalize wc.setCell ⟨w2.heap.size, 18, none⟩ (.int .u64 (un s / 2)) = wd at *
    refine hK _ _ ?_
    clear hK K n3 f3 n17 f17 n18 f18 n2 f2 c2 hgu eg env HBwc HOwc HXwc HBwb HOwb HXwb HBwa HOwa HXwa hun hunb
    (try simp only [Act.put, List.setIfInBounds_toArray, List.set_cons_zero, List.set_cons_succ])
    have m15 := HBP.out.cell 15 (v := .slice ax n cx) rfl
    have hlo := HBP.out.lt
    have hln := HBN.out.lt
    go_wp2_with (at_builtin; refine Classical.byContradiction (fun hN => ?_))
    refine hN ?_
    clear hN
    have hlit : OwnG Value.bool 4 (wd.alloc (.cells #[] 4)) wd.heap.size (.slice (some ⟨wd.heap.size, 0, none⟩) 0 0) [] := OwnG.lit (enc := Value.bool) wd [] 4 wd.heap.size (Nat.le_refl _) (Nat.zero_le _) #[] rfl
    have hxa : Ext wd (wd.alloc (.cells #[] 4)) := Ext.alloc _ _
    refine wpList_append_slice (enc := Value.bool) (fun _ => rfl) rfl _ _ 23 rfl wd.heap.size 4 i0 (.bool false) 1 Try.underlying23 hI hI0 hI1 hI2 rfl _ _ _ rfl hlit _ x rfl ((HX.out.ext (HX2.out.trans HXD.out)).ext hxa) (by rw [HN.out]; unfold maxLen; simp only [List.length_nil]; omega) (by rw [HN.out]; simp only [List.length_nil]; omega) hxa.size ?_
    intro v7 w7 ho7 hg7
    have hx7 : Ext wd w7 := hxa.grown hg7 hxa.size (fun q hq => (hlit.lt q hq).1)
    have ho7' := OwnG.app (l := []) ho7
    rw [List.nil_append] at ho7'
    obtain ⟨a7, c7, rfl⟩ := ho7'.shape
    have hbn7 := HBN.out.ext hx7
    have n15 := hbn7.cell 15 (v := .slice ax n cx) rfl
    have nf15 := hbn7.free 15
    have nl15 := hbn7.lt
    have HB8 : Hid (BoxAt (w7.setCell ⟨w2.heap.size, 15, none⟩ (.slice a7 x.length c7)) w2.heap.size (labA (nextL l s) (.slice a7 x.length c7)) 32) := hbn7.set 15 (.slice a7 x.length c7)
    have HP8 := Lib.hid (BoxAt.set_off (HBP.out.ext hx7) (Ne.symm hne) 15 (.slice a7 x.length c7))
    have HX8 : Hid (Ext w2 (w7.setCell ⟨w2.heap.size, 15, none⟩ (.slice a7 x.length c7))) := Ext.setOwn (HXD.out.trans hx7) (Nat.le_refl _)
    have HO8 : Hid (OwnG Value.bool 4 (w7.setCell ⟨w2.heap.size, 15, none⟩ (.slice a7 x.length c7)) wd.heap.size (.slice a7 x.length c7) x) := ho7'.off (fun e => by have := (OwnG.lt ho7' _ e).1; omega) 15 _
    have hle27 : w2.heap.size ≤ wd.heap.size := HXD.out.size
    clear ho7 ho7' hg7 hx7 hlit hxa hbn7
    go_upto_region 8 with fail
    generalize w7.setCell ⟨w2.heap.size, 15, none⟩ (.slice a7 x.length c7) = w8 at *
    obtain ⟨g7, k7, hsh, hg7, hlt7⟩ := HO8.out.form (by rw [HN.out]; have := (valid_facts HVL.out).2.2.1; have := (valid_facts HVL.out).2.2.2.2.2.2.1; rw [HN.out] at this; omega)
    injection hsh with hsh1 _ hsh2
    subst hsh1 hsh2
    rw [HN.out] at HB8 HO8
    have n15b := HB8.out.cell 15 (v := .slice (some ⟨g7, 0, none⟩) n (k7 + 1)) rfl
    have nl15b := HB8.out.lt
    have HXA0 : Hid (OwnG Value.bool 4 w8 wd.heap.size (.slice (some ⟨g7, 0, none⟩) n (k7 + 1)) (xA x lost 0)) := by show OwnG _ _ _ _ _ _; rw [xA_zero]; exact HO8.out
    have HDC := Lib.hid (fun k hk => deadN_succ (l := nextX x lost) (n := k) hk)
    have HDL := Lib.hid (deadN_le (nextX x lost))
    have hg79 : g7 ≠ w2.heap.size := by have := HBN.out.lt; omega
    have hg7o : g7 ≠ w.heap.size := by have := HBP.out.lt; omega
    clear n15 nf15 nl15 m15 hlo hln
    go_wp2_with fail
    clear n15b nl15b
    go_loopw [10, 75] (fun ct it wr => ∃ d : Nat, d ≤ n ∧ it = .int .i64 d ∧ ct = .int .i64 (deadN (nextX x lost) d : Nat) ∧ Hid (OwnG Value.bool 4 wr wd.heap.size (.slice (some ⟨g7, 0, none⟩) n (k7 + 1)) (xA x lost d)) ∧ Hid (BoxAt wr w2.heap.size (labA (nextL l s) (.slice (some ⟨g7, 0, none⟩) n (k7 + 1))) 32) ∧ Hid (BoxAt wr w.heap.size (labA l (.slice ax n cx)) 32) ∧ Hid (Ext w2 wr)) (fun _ it _ => n - (intOf it).toNat)
    case atStart => exact ⟨0, Nat.zero_le _, rfl, by simp [deadN], HXA0, HB8, HP8, HX8⟩
    case round =>
      obtain ⟨d, hd, rfl, rfl, HO, HB, HP, HXr⟩ := hrel
      by_cases hlt : d < n
      · have hdI : (d : Int) < (n : Int) := by omega
        have hd0 : (0 : Int) ≤ (d : Int) := by omega
        have hdx : d < x.length := by rw [HN.out]; exact hlt
        have hdl : d < lost.length := by rw [HRN.out]; omega
        have hdrI : (d : Int) < (r : Int) := by omega
        have hxl : (xA x lost d).length = n := by rw [xA_len, HN.out]
        have hnx : (nextX x lost)[d]'(by rw [nextX_len]; exact hdx) = (x.getD d false || lost.getD d false) := by rw [← getD_in (d := false), nextX_get hdx]
        have HDS := Lib.hid (HDC.out d (by rw [nextX_len]; exact hdx))
        rw [hnx] at HDS
        have hdle := HDL.out d
        obtain ⟨b1, o1, rfl, hb1, hc1⟩ := (HLS.out.ext (HX2.out.trans HXr.out)).get d hdl
        rw [← getD_in (d := false) hdl] at hc1
        have hc2 := HO.out.at hxl.symm (show d < (xA x lost d).length by rw [hxl]; exact hlt)
        rw [xA_at hdx] at hc2
        have hf2 := HO.out.frees hxl.symm d
        have hl2 : g7 < wr.heap.size := (OwnG.lt HO.out g7 (by simp [Value.ownBlock])).2
        have n15 := HB.out.cell 15 (v := .slice (some ⟨g7, 0, none⟩) n (k7 + 1)) rfl
        have nl15 := HB.out.lt
        have HNX := Lib.hid (xA_next (lost := lost) hdx)
        have hput := fun (v : Bool) => (HO.out.put hxl.symm d v).ext (Ext.drew _)
        obtain ⟨z, hz⟩ : ∃ z, x.getD d false = z := ⟨_, rfl⟩
        obtain ⟨u, hu⟩ : ∃ u, lost.getD d false = u := ⟨_, rfl⟩
        rw [hz] at hc2 HDS HNX
        rw [hu] at hc1 HDS HNX
        have HPUT := Lib.hid (hput (z || u))
        rw [HNX.out] at HPUT
        have HB9 := Lib.hid (fun v => (BoxAt.set_off HB.out (Ne.symm hg79) d v).ext (Ext.drew _))
        have HP9 := Lib.hid (fun v => (BoxAt.set_off HP.out (Ne.symm hg7o) d v).ext (Ext.drew _))
        have HX9 := Lib.hid (fun (v : Value) => (Ext.setOwn (o := d) (v := v) HXr.out (show w2.heap.size ≤ g7 by omega)).trans (Ext.drew _))
        clear hput hz hu hnx hxl
        generalize deadN (nextX x lost) d = N at *
        cases z with
        | true =>
          go_wp2_with fail
          refine wp_region_ext [(0, true), (1, true), (2, true), (3, true), (4, true), (5, true), (6, true), (7, true), (8, true), (9, true), (10, true), (11, true), (12, true), (13, true), (14, true), (15, false)] (by kernel_rfl) (by kernel_rfl) ?_
          iterate 15 (first
           | (refine ext_move rfl rfl (by rfl) (by rfl) ?_; simp only [Act.put, List.setIfInBounds_toArray, List.set_cons_zero, List.set_cons_succ])
           | (refine ext_assign rfl rfl (by rfl) (by rfl) ?_; simp only [Act.put, List.setIfInBounds_toArray, List.set_cons_zero, List.set_cons_succ])
           | (refine ext_pick_t rfl rfl (by rfl) (by rfl) (by rfl) ?_; simp only [Act.put, List.setIfInBounds_toArray, List.set_cons_zero, List.set_cons_succ])
           | (refine ext_pick_f rfl rfl (by rfl) (by rfl) (by rfl) ?_; simp only [Act.put, List.setIfInBounds_toArray, List.set_cons_zero, List.set_cons_succ])
           | (apply ext_take rfl (by rfl)
              · intro w' hS
                have hSc := hS.cells
                (try simp only [World.size_drew, World.cell?_drew] at hSc)
                go_simp
                (try simp (disch := omega) only [i64_id, u64_id, ↓IntWalk.iteOmega, Int.tdiv_eq_ediv_of_nonneg, Int.tmod_eq_emod_of_nonneg])
                try rfl
              simp only [Act.put, List.setIfInBounds_toArray, List.set_cons_zero, List.set_cons_succ])
           | (refine ext_pass rfl (by rfl) ?_; simp only [Act.put, List.setIfInBounds_toArray, List.set_cons_zero, List.set_cons_succ]))
          (refine ext_last rfl (by rfl) (by kernel_rfl) (fun K hK => ?_)
           go_simp
           refine hK _ _ ?_
           clear hK K
           (try simp only [Act.put, List.setIfInBounds_toArray, List.set_cons_zero, List.set_cons_succ]))
          have hp9 : OwnG Value.bool 4 (wr.setCell ⟨g7, d, none⟩ (.bool true)).drew wd.heap.size (.slice (some ⟨g7, 0, none⟩) n (k7 + 1)) (xA x lost (d + 1)) := HPUT.out
          have hb9 := HB9.out (.bool true)
          have hq9 := HP9.out (.bool true)
          have hx9 := HX9.out (.bool true)
          generalize (wr.setCell ⟨g7, d, none⟩ (.bool true)).drew = w9 at *
          have hc9 : w9.cell? ⟨g7, d, none⟩ = some (.bool true) := by
            have hl9 : d < (xA x lost (d + 1)).length := by rw [xA_len, HN.out]; exact hlt
            have h := hp9.at (show n = (xA x lost (d + 1)).length by rw [xA_len, HN.out]) hl9
            have e : (xA x lost (d + 1))[d] = true := by
              have h2 := HNX.out
              simp only [← h2, List.getElem_set_self]; rfl
            rw [e] at h; exact h
          have hl9 : g7 < w9.heap.size := (OwnG.lt hp9 g7 (by simp [Value.ownBlock])).2
          have n159 := hb9.cell 15 (v := .slice (some ⟨g7, 0, none⟩) n (k7 + 1)) rfl
          have nl159 := hb9.lt
          have HP9' := Lib.hid hp9
          have HB9' := Lib.hid hb9
          have HQ9' := Lib.hid hq9
          have HX9' := Lib.hid hx9
          clear hp9 hb9 hq9 hx9 hc1 hc2 hf2 hl2 n15 nl15 hb1
          go_wp2_with fail
          go_roundw
          case rel => exact ⟨d + 1, by omega, by go_num, by rw [HDS.out]; simp, HP9', HB9', HQ9', HX9'⟩
          case measure => simp [intOf]; omega
        | false =>
          cases u with
          | true =>
            go_wp2_with fail
            refine wp_region_ext [(0, true), (1, true), (2, true), (3, true), (4, true), (5, true), (6, true), (7, true), (8, true), (9, true), (10, true), (11, true), (12, true), (13, true), (14, true), (15, false)] (by kernel_rfl) (by kernel_rfl) ?_
            iterate 15 (first
             | (refine ext_move rfl rfl (by rfl) (by rfl) ?_; simp only [Act.put, List.setIfInBounds_toArray, List.set_cons_zero, List.set_cons_succ])
             | (refine ext_assign rfl rfl (by rfl) (by rfl) ?_; simp only [Act.put, List.setIfInBounds_toArray, List.set_cons_zero, List.set_cons_succ])
             | (refine ext_pick_t rfl rfl (by rfl) (by rfl) (by rfl) ?_; simp only [Act.put, List.setIfInBounds_toArray, List.set_cons_zero, List.set_cons_succ])
             | (refine ext_pick_f rfl rfl (by rfl) (by rfl) (by rfl) ?_; simp only [Act.put, List.setIfInBounds_toArray, List.set_cons_zero, List.set_cons_succ])
             | (apply ext_take rfl (by rfl)
                · intro w' hS
                  have hSc := hS.cells
                  (try simp only [World.size_drew, World.cell?_drew] at hSc)
                  go_simp
                  (try simp (disch := omega) only [i64_id, u64_id, ↓IntWalk.iteOmega, Int.tdiv_eq_ediv_of_nonneg, Int.tmod_eq_emod_of_nonneg])
                  try rfl
                simp only [Act.put, List.setIfInBounds_toArray, List.set_cons_zero, List.set_cons_succ])
             | (refine ext_pass rfl (by rfl) ?_; simp only [Act.put, List.setIfInBounds_toArray, List.set_cons_zero, List.set_cons_succ]))
            (refine ext_last rfl (by rfl) (by kernel_rfl) (fun K hK => ?_)
             go_simp
             refine hK _ _ ?_
             clear hK K
             (try simp only [Act.put, List.setIfInBounds_toArray, List.set_cons_zero, List.set_cons_succ]))
            have hp9 : OwnG Value.bool 4 (wr.setCell ⟨g7, d, none⟩ (.bool true)).drew wd.heap.size (.slice (some ⟨g7, 0, none⟩) n (k7 + 1)) (xA x lost (d + 1)) := HPUT.out
            have hb9 := HB9.out (.bool true)
            have hq9 := HP9.out (.bool true)
            have hx9 := HX9.out (.bool true)
            generalize (wr.setCell ⟨g7, d, none⟩ (.bool true)).drew = w9 at *
            have hc9 : w9.cell? ⟨g7, d, none⟩ = some (.bool true) := by
              have hl9 : d < (xA x lost (d + 1)).length := by rw [xA_len, HN.out]; exact hlt
              have h := hp9.at (show n = (xA x lost (d + 1)).length by rw [xA_len, HN.out]) hl9
              have e : (xA x lost (d + 1))[d] = true := by
                have h2 := HNX.out
                simp only [← h2, List.getElem_set_self]; rfl
              rw [e] at h; exact h
            have hl9 : g7 < w9.heap.size := (OwnG.lt hp9 g7 (by simp [Value.ownBlock])).2
            have n159 := hb9.cell 15 (v := .slice (some ⟨g7, 0, none⟩) n (k7 + 1)) rfl
            have nl159 := hb9.lt
            have HP9' := Lib.hid hp9
            have HB9' := Lib.hid hb9
            have HQ9' := Lib.hid hq9
            have HX9' := Lib.hid hx9
            clear hp9 hb9 hq9 hx9 hc1 hc2 hf2 hl2 n15 nl15 hb1
            go_wp2_with fail
            go_roundw
            case rel => exact ⟨d + 1, by omega, by go_num, by rw [HDS.out]; simp, HP9', HB9', HQ9', HX9'⟩
            case measure => simp [intOf]; omega
          | false =>
            go_wp2_with fail
            refine wp_region_ext [(0, true), (1, true), (2, true), (3, true), (4, true), (5, true), (6, true), (7, true), (8, true), (9, true), (10, true), (11, true), (12, true), (13, true), (14, true), (15, false)] (by kernel_rfl) (by kernel_rfl) ?_
            iterate 15 (first
             | (refine ext_move rfl rfl (by rfl) (by rfl) ?_; simp only [Act.put, List.setIfInBounds_toArray, List.set_cons_zero, List.set_cons_succ])
             | (refine ext_assign rfl rfl (by rfl) (by rfl) ?_; simp only [Act.put, List.setIfInBounds_toArray, List.set_cons_zero, List.set_cons_succ])
             | (refine ext_pick_t rfl rfl (by rfl) (by rfl) (by rfl) ?_; simp only [Act.put, List.setIfInBounds_toArray, List.set_cons_zero, List.set_cons_succ])
             | (refine ext_pick_f rfl rfl (by rfl) (by rfl) (by rfl) ?_; simp only [Act.put, List.setIfInBounds_toArray, List.set_cons_zero, List.set_cons_succ])
             | (apply ext_take rfl (by rfl)
                · intro w' hS
                  have hSc := hS.cells
                  (try simp only [World.size_drew, World.cell?_drew] at hSc)
                  go_simp
                  (try simp (disch := omega) only [i64_id, u64_id, ↓IntWalk.iteOmega, Int.tdiv_eq_ediv_of_nonneg, Int.tmod_eq_emod_of_nonneg])
                  try rfl
                simp only [Act.put, List.setIfInBounds_toArray, List.set_cons_zero, List.set_cons_succ])
             | (refine ext_pass rfl (by rfl) ?_; simp only [Act.put, List.setIfInBounds_toArray, List.set_cons_zero, List.set_cons_succ]))
            (refine ext_last rfl (by rfl) (by kernel_rfl) (fun K hK => ?_)
             go_simp
             refine hK _ _ ?_
             clear hK K
             (try simp only [Act.put, List.setIfInBounds_toArray, List.set_cons_zero, List.set_cons_succ]))
            have hp9 : OwnG Value.bool 4 (wr.setCell ⟨g7, d, none⟩ (.bool false)).drew wd.heap.size (.slice (some ⟨g7, 0, none⟩) n (k7 + 1)) (xA x lost (d + 1)) := HPUT.out
            have hb9 := HB9.out (.bool false)
            have hq9 := HP9.out (.bool false)
            have hx9 := HX9.out (.bool false)
            generalize (wr.setCell ⟨g7, d, none⟩ (.bool false)).drew = w9 at *
            have hc9 : w9.cell? ⟨g7, d, none⟩ = some (.bool false) := by
              have hl9 : d < (xA x lost (d + 1)).length := by rw [xA_len, HN.out]; exact hlt
              have h := hp9.at (show n = (xA x lost (d + 1)).length by rw [xA_len, HN.out]) hl9
              have e : (xA x lost (d + 1))[d] = false := by
                have h2 := HNX.out
                simp only [← h2, List.getElem_set_self]; rfl
              rw [e] at h; exact h
            have hl9 : g7 < w9.heap.size := (OwnG.lt hp9 g7 (by simp [Value.ownBlock])).2
            have n159 := hb9.cell 15 (v := .slice (some ⟨g7, 0, none⟩) n (k7 + 1)) rfl
            have nl159 := hb9.lt
            have HP9' := Lib.hid hp9
            have HB9' := Lib.hid hb9
            have HQ9' := Lib.hid hq9
            have HX9' := Lib.hid hx9
            clear hp9 hb9 hq9 hx9 hc1 hc2 hf2 hl2 n15 nl15 hb1
            go_wp2_with fail
            go_roundw
            case rel => exact ⟨d + 1, by omega, by go_num, by rw [HDS.out]; simp, HP9', HB9', HQ9', HX9'⟩
            case measure => simp [intOf]; omega
      · have hdn : n = d := by omega
        subst hdn
        have hin2 : ¬ ((n : Int) < (n : Int)) := by omega
        have HXALL : Hid (xA x lost n = nextX x lost) := by show _ = _; rw [← HN.out]; exact xA_all x lost
        rw [HXALL.out] at HO
        have hdle := HDL.out n
        by_cases h3 : 3 < deadN (nextX x lost) n
        · have d1 : decide ((3 : Int) < (deadN (nextX x lost) n : Int)) = true := by rw [decide_eq_true_iff]; omega
          have d2 : decide (3 < deadN (nextX x lost) n) = true := by rw [decide_eq_true_iff]; exact h3
          go_wp2_with fail
          go_ret
          exact ⟨rfl, HX2.out.trans HXr.out⟩
        have d1 : decide ((3 : Int) < (deadN (nextX x lost) n : Int)) = false := by rw [decide_eq_false_iff_not]; omega
        have d2 : decide (3 < deadN (nextX x lost) n) = false := by rw [decide_eq_false_iff_not]; exact h3
        have HLAW := Lib.hid (int_law (l := l) (x := x) (lost := lost) (done := done) (s := s) HVL.out (by rw [HGG.out]; omega) (by rw [HN.out]; omega))
        generalize deadN (nextX x lost) n = NN at *
        generalize wr = w10 at *
        have HBN2 := HB
        have HBP2 := HP
        have HX10 : Hid (Ext w w10) := HX2.out.trans HXr.out
        have HNS := Lib.hid HO.out.slice
        have p15 := HP.out.cell 15 (v := .slice ax n cx) rfl
        have pl15 := HP.out.lt
        clear HB HP HO HXr hdle h3 HXA0 HB8 HP8 HX8 HO8 HBN HBP HXD HB3 HX3 HBO HDC HDL
        go_wp2_with fail
        clear p15 pl15
        go_loopw [12, 13, 14, 106] (fun lt rt at_ it wr => ∃ d : Nat, d ≤ n ∧ it = .int .i64 d ∧ at_ = .bool (intAny x lost done d) ∧ Hid (OwnLs wr w10.heap.size lt (intPs l s (.slice ax n cx) (.slice (some ⟨g7, 0, none⟩) n (k7 + 1)) done d)) ∧ Hid (OwnG Value.bool 4 wr w10.heap.size rt (missBs (nextX x lost) d)) ∧ Hid (Ext w10 wr)) (fun _ _ _ it _ => n - (intOf it).toNat)
        case atStart => exact ⟨0, Nat.zero_le _, rfl, rfl, Lib.hid OwnLs.nil, Lib.hid OwnG.nil, Lib.hid (Ext.refl _)⟩
        case round =>
          obtain ⟨d, hd, rfl, rfl, HL, HR, HXr⟩ := hrel
          by_cases hlt : d < n
          · have hdI : (d : Int) < (n : Int) := by omega
            have hd0 : (0 : Int) ≤ (d : Int) := by omega
            have hdp : d < done.length := by rw [HPN.out]; omega
            have hdpI : (d : Int) < (p : Int) := by omega
            have hdx : d < (nextX x lost).length := by rw [nextX_len, HN.out]; exact hlt
            obtain ⟨b1, o1, rfl, -, -⟩ := HDN.out.get d hdp
            have HPX := Lib.hid (intPs_next l s (.slice ax n cx) (.slice (some ⟨g7, 0, none⟩) n (k7 + 1)) done d)
            have HBX := Lib.hid (missBs_next (nextX x lost) d)
            have HAX := Lib.hid (intAny_next x lost done d)
            obtain ⟨u, hu⟩ : ∃ u, done.getD d false = u := ⟨_, rfl⟩
            obtain ⟨z, hz⟩ : ∃ z, (nextX x lost).getD d false = z := ⟨_, rfl⟩
            rw [hu] at HPX HAX
            rw [hz] at HBX HAX
            have HG1 : Hid (∀ w', Ext w10 w' → b1 < w'.heap.size ∧ w'.cell? ⟨b1, o1 + d, none⟩ = some (.bool u)) := fun w' e => by
              obtain ⟨b', o', hbe, hb', hc'⟩ := (HDN.out.ext (HX10.out.trans e)).get d hdp
              cases hbe
              rw [← getD_in (d := false) hdp, hu] at hc'
              exact ⟨hb', hc'⟩
            have HG2 : Hid (∀ w', Ext w10 w' → g7 < w'.heap.size ∧ w'.cell? ⟨g7, d, none⟩ = some (.bool z)) := fun w' e => by
              obtain ⟨b', o', hbe, hb', hc'⟩ := (HNS.out.ext e).get d hdx
              cases hbe
              rw [Nat.zero_add, ← getD_in (d := false) hdx, hz] at hc'
              exact ⟨hb', hc'⟩
            obtain ⟨al', cl', rfl, _⟩ := HL.out.shape
            obtain ⟨ar', cr', rfl⟩ := HR.out.shape
            rw [intPs_len] at HL ⊢
            rw [missBs_len] at HR ⊢
            have HPr := Lib.hid (HBP2.out.ext HXr.out)
            have HNr := Lib.hid (HBN2.out.ext HXr.out)
            have hsz := HXr.out.size
            obtain ⟨A, hA⟩ : ∃ A, intAny x lost done d = A := ⟨_, rfl⟩
            rw [hA] at HAX ⊢
            clear hu hz hA hdp hdx
            go_upto_region 25 with (first | (refine wpList_loadR 32 _ rfl (by rfl) rfl (LabAt.of_box HPr.out).load ?_) | (refine wpList_store_lab (w0 := wr) (l := l) (d := .slice ax n cx) _ _ rfl (by rfl) rfl rfl (BoxAt.new _ _ _) rfl rfl (Ext.alloc _ _) (Nat.le_refl _) ?_; intro w4 hx4 hb4 hs4))
            obtain ⟨q1, c1⟩ := HG1.out w4 (HXr.out.trans hx4)
            have HB4 := Lib.hid hb4
            have HX4 := Lib.hid hx4
            clear hx4 hb4 hs4
            cases u with
            | true =>
              go_upto_region 27 with (first | (refine wpList_loadR 32 _ rfl (by rfl) rfl (LabAt.of_box (HNr.out.ext HX4.out)).load ?_) | (refine wpList_store_lab (w0 := wr) (l := nextL l s) (d := .slice (some ⟨g7, 0, none⟩) n (k7 + 1)) _ _ rfl (by rfl) rfl rfl HB4.out rfl rfl HX4.out (Nat.le_refl _) ?_; intro w4' hx4' hb4' hs4'))
              clear HB4 HX4
              have HB4 := Lib.hid hb4'
              have HX4 := Lib.hid hx4'
              clear hb4' hx4' hs4'
              generalize w4' = w4 at *
              have c41 := HB4.out.cell 1 (v := .int .i64 l.disk) rfl
              have f41 := HB4.out.free 1
              have l41 := HB4.out.lt
              have HB5 : Hid (BoxAt (w4.setCell ⟨wr.heap.size, 1, none⟩ (.int .i64 d)) wr.heap.size (labA (oneL (nextL l s) d) (.slice (some ⟨g7, 0, none⟩) n (k7 + 1))) 32) := HB4.out.set 1 (.int .i64 d)
              have HX5 : Hid (Ext wr (w4.setCell ⟨wr.heap.size, 1, none⟩ (.int .i64 d))) := Ext.setOwn HX4.out (Nat.le_refl _)
              go_upto_region 28 with fail
              generalize w4.setCell ⟨wr.heap.size, 1, none⟩ (.int .i64 d) = w5 at *
              clear c41 f41 l41 q1 c1
              go_wp2_with (first | (refine wpList_loadR 32 _ rfl (by rfl) rfl (LabAt.of_box HB5.out).load ?_) | (at_builtin; refine Classical.byContradiction (fun hN => ?_)))
              refine hN ?_
              clear hN
              have e6 : Ext w5 (w5.alloc (.cells (labA (oneL (nextL l s) d) (.slice (some ⟨g7, 0, none⟩) n (k7 + 1))) 32)) := Ext.alloc _ _
              have hown := (HL.out.ext HX5.out).ext e6
              have hrow := (HR.out.ext HX5.out).ext e6
              have hx25 := (HXr.out.trans HX5.out).trans e6
              refine wpList_append_lab rfl _ _ rfl w10.heap.size _ _ rfl hown rfl (BoxAt.new _ _ _) rfl (by rw [intPs_len]; omega) hx25.size ?_
              intro v7 w7 ho7 hg7'
              have HX7 : Hid (Ext w10 w7) := hx25.grown hg7' hx25.size (fun q hq => (hown.lt q hq).1)
              have HO7 : Hid (OwnLs w7 w10.heap.size v7 (intPs l s (.slice ax n cx) (.slice (some ⟨g7, 0, none⟩) n (k7 + 1)) done (d + 1))) := by show OwnLs _ _ _ _; rw [HPX.out]; exact ho7
              have HR7 := Lib.hid (hrow.keptL hown (by decide) hg7')
              obtain ⟨q2, c2⟩ := HG2.out w7 HX7.out
              have n15 := (HBN2.out.ext HX7.out).cell 15 (v := .slice (some ⟨g7, 0, none⟩) n (k7 + 1)) rfl
              have nl15 := (HBN2.out.ext HX7.out).lt
              clear ho7 hg7' hrow hown hx25 e6
              go_wp2_with (at_builtin; refine Classical.byContradiction (fun hN => ?_))
              refine hN ?_
              clear hN
              have e8 : Ext w7 (w7.alloc (.cells #[.bool (!z)] 4)) := Ext.alloc _ _
              have hrow8 := HR7.out.ext e8
              have hlow8 := HO7.out.ext e8
              have hx28 := HX7.out.trans e8
              refine wpList_append_one rfl _ _ _ rfl w10.heap.size 4 i0 (.bool false) 1 Try.underlying23 hI hI0 hI1 hI2 rfl _ _ _ rfl hrow8 _ (.bool (!z)) rfl rfl (cell_new1 _ _ _) (by rw [missBs_len]; unfold maxLen; omega) (by rw [missBs_len]; omega) hx28.size ?_
              intro v9 w9 ho9 hg9 _
              have HX9 : Hid (Ext w10 w9) := hx28.grown hg9 hx28.size (fun q hq => (hrow8.lt q hq).1)
              have HO9 := Lib.hid (hlow8.kept hrow8 (by decide) hg9)
              have HR9 : Hid (OwnG Value.bool 4 w9 w10.heap.size v9 (missBs (nextX x lost) (d + 1))) := by show OwnG _ _ _ _ _ _; rw [HBX.out]; exact OwnG.snoc (enc := Value.bool) (x := !z) ho9
              obtain ⟨q19, c19⟩ := HG1.out w9 HX9.out
              obtain ⟨q29, c29⟩ := HG2.out w9 HX9.out
              have m15 := (HBN2.out.ext HX9.out).cell 15 (v := .slice (some ⟨g7, 0, none⟩) n (k7 + 1)) rfl
              have ml := (HBN2.out.ext HX9.out).lt
              clear ho9 hg9 hrow8 hlow8 hx28 e8 q2 c2 n15 nl15
              cases A with
              | true =>
                go_wp2_with fail
                go_roundw
                case rel => exact ⟨d + 1, by omega, by go_num, by rw [HAX.out]; rfl, HO9, HR9, HX9⟩
                case measure => simp [intOf]; omega
              | false =>
                go_wp2_with fail
                go_roundw
                case rel => exact ⟨d + 1, by omega, by go_num, by rw [HAX.out]; simp, HO9, HR9, HX9⟩
                case measure => simp [intOf]; omega
            | false =>
              go_upto_region 27 with fail
              have c41 := HB4.out.cell 1 (v := .int .i64 l.disk) rfl
              have f41 := HB4.out.free 1
              have l41 := HB4.out.lt
              have HB5 : Hid (BoxAt (w4.setCell ⟨wr.heap.size, 1, none⟩ (.int .i64 d)) wr.heap.size (labA (oneL l d) (.slice ax n cx)) 32) := HB4.out.set 1 (.int .i64 d)
              have HX5 : Hid (Ext wr (w4.setCell ⟨wr.heap.size, 1, none⟩ (.int .i64 d))) := Ext.setOwn HX4.out (Nat.le_refl _)
              go_upto_region 28 with fail
              generalize w4.setCell ⟨wr.heap.size, 1, none⟩ (.int .i64 d) = w5 at *
              clear c41 f41 l41 q1 c1
              go_wp2_with (first | (refine wpList_loadR 32 _ rfl (by rfl) rfl (LabAt.of_box HB5.out).load ?_) | (at_builtin; refine Classical.byContradiction (fun hN => ?_)))
              refine hN ?_
              clear hN
              have e6 : Ext w5 (w5.alloc (.cells (labA (oneL l d) (.slice ax n cx)) 32)) := Ext.alloc _ _
              have hown := (HL.out.ext HX5.out).ext e6
              have hrow := (HR.out.ext HX5.out).ext e6
              have hx25 := (HXr.out.trans HX5.out).trans e6
              refine wpList_append_lab rfl _ _ rfl w10.heap.size _ _ rfl hown rfl (BoxAt.new _ _ _) rfl (by rw [intPs_len]; omega) hx25.size ?_
              intro v7 w7 ho7 hg7'
              have HX7 : Hid (Ext w10 w7) := hx25.grown hg7' hx25.size (fun q hq => (hown.lt q hq).1)
              have HO7 : Hid (OwnLs w7 w10.heap.size v7 (intPs l s (.slice ax n cx) (.slice (some ⟨g7, 0, none⟩) n (k7 + 1)) done (d + 1))) := by show OwnLs _ _ _ _; rw [HPX.out]; exact ho7
              have HR7 := Lib.hid (hrow.keptL hown (by decide) hg7')
              obtain ⟨q2, c2⟩ := HG2.out w7 HX7.out
              have n15 := (HBN2.out.ext HX7.out).cell 15 (v := .slice (some ⟨g7, 0, none⟩) n (k7 + 1)) rfl
              have nl15 := (HBN2.out.ext HX7.out).lt
              clear ho7 hg7' hrow hown hx25 e6
              go_wp2_with (at_builtin; refine Classical.byContradiction (fun hN => ?_))
              refine hN ?_
              clear hN
              have e8 : Ext w7 (w7.alloc (.cells #[.bool (!z)] 4)) := Ext.alloc _ _
              have hrow8 := HR7.out.ext e8
              have hlow8 := HO7.out.ext e8
              have hx28 := HX7.out.trans e8
              refine wpList_append_one rfl _ _ _ rfl w10.heap.size 4 i0 (.bool false) 1 Try.underlying23 hI hI0 hI1 hI2 rfl _ _ _ rfl hrow8 _ (.bool (!z)) rfl rfl (cell_new1 _ _ _) (by rw [missBs_len]; unfold maxLen; omega) (by rw [missBs_len]; omega) hx28.size ?_
              intro v9 w9 ho9 hg9 _
              have HX9 : Hid (Ext w10 w9) := hx28.grown hg9 hx28.size (fun q hq => (hrow8.lt q hq).1)
              have HO9 := Lib.hid (hlow8.kept hrow8 (by decide) hg9)
              have HR9 : Hid (OwnG Value.bool 4 w9 w10.heap.size v9 (missBs (nextX x lost) (d + 1))) := by show OwnG _ _ _ _ _ _; rw [HBX.out]; exact OwnG.snoc (enc := Value.bool) (x := !z) ho9
              obtain ⟨q19, c19⟩ := HG1.out w9 HX9.out
              obtain ⟨q29, c29⟩ := HG2.out w9 HX9.out
              have m15 := (HBN2.out.ext HX9.out).cell 15 (v := .slice (some ⟨g7, 0, none⟩) n (k7 + 1)) rfl
              have ml := (HBN2.out.ext HX9.out).lt
              clear ho9 hg9 hrow8 hlow8 hx28 e8 q2 c2 n15 nl15
              cases A with
              | true =>
                go_wp2_with fail
                go_roundw
                case rel => exact ⟨d + 1, by omega, by go_num, by rw [HAX.out]; rfl, HO9, HR9, HX9⟩
                case measure => simp [intOf]; omega
              | false =>
                go_wp2_with fail
                go_roundw
                case rel => exact ⟨d + 1, by omega, by go_num, by rw [HAX.out]; simp, HO9, HR9, HX9⟩
                case measure => simp [intOf]; omega
          · have hdn : n = d := by omega
            subst hdn
            have hin3 : ¬ ((n : Int) < (n : Int)) := by omega
            have hlabs := HL.out.labs (ls := intLs l x lost done s) (by rw [int_len, intPs_len]; exact HN.out) (fun i h1 h2 => by
              have hi : i < n := by rw [intPs_len] at h2; exact h2
              have e1 : (intLs l x lost done s)[i] = if done.getD i false then (oneL (nextL l s) i, nextX x lost) else (oneL l i, x) := by simp only [intLs, List.getElem_map, List.getElem_range]
              have e2 : (intPs l s (.slice ax n cx) (.slice (some ⟨g7, 0, none⟩) n (k7 + 1)) done n)[i] = if done.getD i false then (oneL (nextL l s) i, .slice (some ⟨g7, 0, none⟩) n (k7 + 1)) else (oneL l i, .slice ax n cx) := by simp only [intPs, List.getElem_map, List.getElem_range]
              rw [e1, e2]
              cases done.getD i false
              · exact ⟨rfl, HX.out.ext (HX10.out.trans HXr.out)⟩
              · exact ⟨rfl, HNS.out.ext HXr.out⟩)
            obtain ⟨al', cl', rfl, _⟩ := HL.out.shape
            obtain ⟨ar', cr', rfl⟩ := HR.out.shape
            rw [intPs_len] at HL hlabs ⊢
            rw [missBs_len] at HR ⊢
            have HLB := Lib.hid hlabs
            have HRB : Hid (SliceAt Value.bool wr (.slice ar' n cr') (intRd x lost)) := by show SliceAt _ _ _ _; rw [intRd_eq, HN.out]; exact HR.out.slice
            have HDLL : Hid (∀ i, (ldN (intLs l x lost done s) i).2.length ≤ 100000) := fun i => by
              by_cases hi : i < x.length
              · rw [int_ld hi]
                split
                · show (nextX x lost).length ≤ _; rw [nextX_len, HN.out]; omega
                · show x.length ≤ _; rw [HN.out]; omega
              · unfold ldN; rw [getD_out (by rw [int_len]; exact hi)]; decide
            clear hlabs
            go_wp2_with fail
            go_at_call 11
            refine (elect_any _ _ (intLs l x lost done s) (intRd x lost) _ (by rw [int_len, HN.out]; omega) (by rw [intRd_len, HN.out]; omega) HDLL.out HLB.out HRB.out).mono ?_
            rintro e w3' ⟨d3, a3, rfl, hd3, ha3, hx3'⟩
            have HX3 : Hid (Ext w10 w3') := HXr.out.trans hx3'
            obtain ⟨p3, q3, rfl⟩ := hd3.shape
            obtain ⟨s3, t3, rfl⟩ := ha3.shape
            have HD3 := Lib.hid hd3
            have HA3 := Lib.hid ha3
            have hl3 : (labE (intLs l x lost done s) (intRd x lost)).2.length ≤ 100000 := by
              unfold labE
              split
              · decide
              · split
                · exact HDLL.out _
                · decide
            obtain ⟨he, hpl, heq1, heq2⟩ := HLAW.out
            rw [HN.out] at hpl heq1 heq2
            rw [he]
            have hpll : (placesE (intLs l x lost done s) (intRd x lost)).length = n := by rw [hpl, List.length_map, List.length_range]
            have HPG : Hid (∀ i (h : i < (placesE (intLs l x lost done s) (intRd x lost)).length), (placesE (intLs l x lost done s) (intRd x lost))[i] = if !((nextX x lost).getD i false) then (i : Int) else -1) := by
              intro i h
              simp only [hpl, List.getElem_map, List.getElem_range]
            rw [hpll] at HA3 ⊢
            have HPLL := Lib.hid hpll
            have HE1 := Lib.hid heq1
            have HE2 := Lib.hid heq2
            generalize (labE (intLs l x lost done s) (intRd x lost)).2 = X3 at *
            generalize (labE (intLs l x lost done s) (intRd x lost)).1 = L3 at *
            generalize placesE (intLs l x lost done s) (intRd x lost) = P3 at *
            obtain ⟨A, hA⟩ : ∃ A, intAny x lost done n = A := ⟨_, rfl⟩
            rw [hA] at HE1 HE2 ⊢
            clear hd3 ha3 hx3' HLAW HDLL he hpl heq1 heq2 hpll hA
            go_upto_region 33 with (refine wpList_store_lab (w0 := w3') (l := L3) (d := .slice p3 X3.length q3) _ _ rfl (by rfl) rfl rfl (BoxAt.new _ _ _) rfl rfl (Ext.alloc _ _) (Nat.le_refl _) ?_; intro w4 hx4 hb4 hs4)
            have HX4 : Hid (Ext w10 w4) := HX3.out.trans hx4
            have HB4 := Lib.hid hb4
            have HD4 := Lib.hid (HD3.out.ext hx4)
            have HA4 := Lib.hid (HA3.out.ext hx4)
            have HN4 := Lib.hid (HBN2.out.ext HX4.out)
            have HP4 := Lib.hid (HBP2.out.ext HX4.out)
            have p15 := HP4.out.cell 15 (v := .slice ax n cx) rfl
            have pl15 := HP4.out.lt
            have hq1 : ((n : Int) == n) = true := by simp
            have hq2 : ((n : Int) != n) = false := by simp
            have ha1 : (A != A) = false := by simp
            have hEq1 := requal_any L3 (nextL l s) _ _ X3 (nextX x lost) w4 hl3 (by rw [nextX_len, HN.out]; omega) HD4.out (HNS.out.ext HX4.out)
            rw [HE1.out] at hEq1
            have HEQ1 := Lib.hid hEq1
            have HEQ2 := Lib.hid (fun (w' : World) (e : Ext w4 w') => requal_any L3 l _ _ X3 x w' hl3 (by rw [HN.out]; omega) (HD4.out.ext e) ((HX.out.ext (HX10.out.trans HX4.out)).ext e))
            clear hx4 hb4 hs4 hEq1
            go_wp2_with (first | (refine wpList_loadR 32 _ rfl (by rfl) rfl (LabAt.of_box HB4.out).load ?_) | (refine wpList_loadR 32 _ rfl (by rfl) rfl (LabAt.of_box HN4.out).load ?_))
            go_at_call 15
            refine HEQ1.out.mono ?_
            rintro e w5 ⟨rfl, hx5⟩
            have HX5 : Hid (Ext w4 w5) := hx5
            have HB5 := Lib.hid (HB4.out.ext hx5)
            have HP5 := Lib.hid (HP4.out.ext hx5)
            clear hx5 p15 pl15
            cases A with
            | true =>
              go_wp2_with fail
              have HXE := HX5
              go_loopw [182] (fun it wr => ∃ d : Nat, d ≤ n ∧ it = .int .i64 d ∧ Hid (Ext w4 wr)) (fun it _ => n - (intOf it).toNat)
              case atStart => exact ⟨0, Nat.zero_le _, rfl, HXE⟩
              case round =>
                obtain ⟨d, hd, rfl, HXq⟩ := hrel
                by_cases hlt : d < n
                · have hdI : (d : Int) < (n : Int) := by omega
                  have hd0 : (0 : Int) ≤ (d : Int) := by omega
                  have hda : d < P3.length := by rw [HPLL.out]; exact hlt
                  have hdx : d < (nextX x lost).length := by rw [nextX_len, HN.out]; exact hlt
                  obtain ⟨b1, o1, rfl, hb1, hc1⟩ := (HA4.out.ext HXq.out).get d hda
                  rw [HPG.out d hda] at hc1
                  obtain ⟨b2, o2, hbe, hb2, hc2⟩ := (HNS.out.ext (HX4.out.trans HXq.out)).get d hdx
                  cases hbe
                  rw [Nat.zero_add, ← getD_in (d := false) hdx] at hc2
                  have n15 := (HN4.out.ext HXq.out).cell 15 (v := .slice (some ⟨g7, 0, none⟩) n (k7 + 1)) rfl
                  have nl15 := (HN4.out.ext HXq.out).lt
                  obtain ⟨z, hz⟩ : ∃ z, (nextX x lost).getD d false = z := ⟨_, rfl⟩
                  rw [hz] at hc1 hc2
                  clear hz hda hdx
                  cases z with
                  | true =>
                    have hc1' : wr.cell? ⟨b1, o1 + d, none⟩ = some (.int .i64 (-1)) := hc1
                    have hq5 : ((-1 : Int) == (d : Int)) = false := by rw [beq_eq_false_iff_ne]; omega
                    clear hc1
                    go_wp2_with fail
                    refine wp_region_ext [(0, true), (1, true), (2, true), (3, true), (4, true), (5, true), (6, true), (7, true), (8, true), (9, true), (10, true), (11, true), (12, true)] (by kernel_rfl) (by kernel_rfl) ?_
                    iterate 13 (first
                     | (refine ext_move rfl rfl (by rfl) (by rfl) ?_; simp only [Act.put, List.setIfInBounds_toArray, List.set_cons_zero, List.set_cons_succ])
                     | (refine ext_assign rfl rfl (by rfl) (by rfl) ?_; simp only [Act.put, List.setIfInBounds_toArray, List.set_cons_zero, List.set_cons_succ])
                     | (refine ext_pick_t rfl rfl (by rfl) (by rfl) (by rfl) ?_; simp only [Act.put, List.setIfInBounds_toArray, List.set_cons_zero, List.set_cons_succ])
                     | (refine ext_pick_f rfl rfl (by rfl) (by rfl) (by rfl) ?_; simp only [Act.put, List.setIfInBounds_toArray, List.set_cons_zero, List.set_cons_succ])
                     | (apply ext_take rfl (by rfl)
                        · intro w' hS
                          have hSc := hS.cells
                          (try simp only [World.size_drew, World.cell?_drew] at hSc)
                          go_simp
                          (try simp (disch := omega) only [i64_id, u64_id, ↓IntWalk.iteOmega, Int.tdiv_eq_ediv_of_nonneg, Int.tmod_eq_emod_of_nonneg])
                          try rfl
                        simp only [Act.put, List.setIfInBounds_toArray, List.set_cons_zero, List.set_cons_succ])
                     | (refine ext_pass rfl (by rfl) ?_; simp only [Act.put, List.setIfInBounds_toArray, List.set_cons_zero, List.set_cons_succ]))
                    refine ext_nil ?_
                    go_wp2_with fail
                    go_roundw
                    case rel => exact ⟨d + 1, by omega, by go_num, HXq.out.trans (Ext.drew _)⟩
                    case measure => simp [intOf]; omega
                  | false =>
                    have hc1' : wr.cell? ⟨b1, o1 + d, none⟩ = some (.int .i64 d) := hc1
                    have hq5 : ((d : Int) == (d : Int)) = true := by simp
                    clear hc1
                    go_wp2_with fail
                    refine wp_region_ext [(0, true), (1, true), (2, true), (3, true), (4, true), (5, true), (6, true), (7, true), (8, true), (9, true), (10, true), (11, true), (12, true)] (by kernel_rfl) (by kernel_rfl) ?_
                    iterate 13 (first
                     | (refine ext_move rfl rfl (by rfl) (by rfl) ?_; simp only [Act.put, List.setIfInBounds_toArray, List.set_cons_zero, List.set_cons_succ])
                     | (refine ext_assign rfl rfl (by rfl) (by rfl) ?_; simp only [Act.put, List.setIfInBounds_toArray, List.set_cons_zero, List.set_cons_succ])
                     | (refine ext_pick_t rfl rfl (by rfl) (by rfl) (by rfl) ?_; simp only [Act.put, List.setIfInBounds_toArray, List.set_cons_zero, List.set_cons_succ])
                     | (refine ext_pick_f rfl rfl (by rfl) (by rfl) (by rfl) ?_; simp only [Act.put, List.setIfInBounds_toArray, List.set_cons_zero, List.set_cons_succ])
                     | (apply ext_take rfl (by rfl)
                        · intro w' hS
                          have hSc := hS.cells
                          (try simp only [World.size_drew, World.cell?_drew] at hSc)
                          go_simp
                          (try simp (disch := omega) only [i64_id, u64_id, ↓IntWalk.iteOmega, Int.tdiv_eq_ediv_of_nonneg, Int.tmod_eq_emod_of_nonneg])
                          try rfl
                        simp only [Act.put, List.setIfInBounds_toArray, List.set_cons_zero, List.set_cons_succ])
                     | (refine ext_pass rfl (by rfl) ?_; simp only [Act.put, List.setIfInBounds_toArray, List.set_cons_zero, List.set_cons_succ]))
                    refine ext_nil ?_
                    go_wp2_with fail
                    go_roundw
                    case rel => exact ⟨d + 1, by omega, by go_num, HXq.out.trans (Ext.drew _)⟩
                    case measure => simp [intOf]; omega
                · have hdn : n = d := by omega
                  subst hdn
                  have hin4 : ¬ ((n : Int) < (n : Int)) := by omega
                  go_wp2_with fail
                  go_ret
                  exact ⟨rfl, (HX10.out.trans HX4.out).trans HXq.out⟩
            | false =>
              have hE2 := HEQ2.out w5 HX5.out
              rw [HE2.out rfl] at hE2
              have HEQ3 := Lib.hid hE2
              clear hE2
              go_wp2_with (first | (refine wpList_loadR 32 _ rfl (by rfl) rfl (LabAt.of_box HB5.out).load ?_) | (refine wpList_loadR 32 _ rfl (by rfl) rfl (LabAt.of_box HP5.out).load ?_))
              go_at_call 15
              refine HEQ3.out.mono ?_
              rintro e w6 ⟨rfl, hx6⟩
              have HXE : Hid (Ext w4 w6) := HX5.out.trans hx6
              clear hx6
              go_wp2_with fail
              go_loopw [182] (fun it wr => ∃ d : Nat, d ≤ n ∧ it = .int .i64 d ∧ Hid (Ext w4 wr)) (fun it _ => n - (intOf it).toNat)
              case atStart => exact ⟨0, Nat.zero_le _, rfl, HXE⟩
              case round =>
                obtain ⟨d, hd, rfl, HXq⟩ := hrel
                by_cases hlt : d < n
                · have hdI : (d : Int) < (n : Int) := by omega
                  have hd0 : (0 : Int) ≤ (d : Int) := by omega
                  have hda : d < P3.length := by rw [HPLL.out]; exact hlt
                  have hdx : d < (nextX x lost).length := by rw [nextX_len, HN.out]; exact hlt
                  obtain ⟨b1, o1, rfl, hb1, hc1⟩ := (HA4.out.ext HXq.out).get d hda
                  rw [HPG.out d hda] at hc1
                  obtain ⟨b2, o2, hbe, hb2, hc2⟩ := (HNS.out.ext (HX4.out.trans HXq.out)).get d hdx
                  cases hbe
                  rw [Nat.zero_add, ← getD_in (d := false) hdx] at hc2
                  have n15 := (HN4.out.ext HXq.out).cell 15 (v := .slice (some ⟨g7, 0, none⟩) n (k7 + 1)) rfl
                  have nl15 := (HN4.out.ext HXq.out).lt
                  obtain ⟨z, hz⟩ : ∃ z, (nextX x lost).getD d false = z := ⟨_, rfl⟩
                  rw [hz] at hc1 hc2
                  clear hz hda hdx
                  cases z with
                  | true =>
                    have hc1' : wr.cell? ⟨b1, o1 + d, none⟩ = some (.int .i64 (-1)) := hc1
                    have hq5 : ((-1 : Int) == (d : Int)) = false := by rw [beq_eq_false_iff_ne]; omega
                    clear hc1
                    go_wp2_with fail
                    refine wp_region_ext [(0, true), (1, true), (2, true), (3, true), (4, true), (5, true), (6, true), (7, true), (8, true), (9, true), (10, true), (11, true), (12, true)] (by kernel_rfl) (by kernel_rfl) ?_
                    iterate 13 (first
                     | (refine ext_move rfl rfl (by rfl) (by rfl) ?_; simp only [Act.put, List.setIfInBounds_toArray, List.set_cons_zero, List.set_cons_succ])
                     | (refine ext_assign rfl rfl (by rfl) (by rfl) ?_; simp only [Act.put, List.setIfInBounds_toArray, List.set_cons_zero, List.set_cons_succ])
                     | (refine ext_pick_t rfl rfl (by rfl) (by rfl) (by rfl) ?_; simp only [Act.put, List.setIfInBounds_toArray, List.set_cons_zero, List.set_cons_succ])
                     | (refine ext_pick_f rfl rfl (by rfl) (by rfl) (by rfl) ?_; simp only [Act.put, List.setIfInBounds_toArray, List.set_cons_zero, List.set_cons_succ])
                     | (apply ext_take rfl (by rfl)
                        · intro w' hS
                          have hSc := hS.cells
                          (try simp only [World.size_drew, World.cell?_drew] at hSc)
                          go_simp
                          (try simp (disch := omega) only [i64_id, u64_id, ↓IntWalk.iteOmega, Int.tdiv_eq_ediv_of_nonneg, Int.tmod_eq_emod_of_nonneg])
                          try rfl
                        simp only [Act.put, List.setIfInBounds_toArray, List.set_cons_zero, List.set_cons_succ])
                     | (refine ext_pass rfl (by rfl) ?_; simp only [Act.put, List.setIfInBounds_toArray, List.set_cons_zero, List.set_cons_succ]))
                    refine ext_nil ?_
                    go_wp2_with fail
                    go_roundw
                    case rel => exact ⟨d + 1, by omega, by go_num, HXq.out.trans (Ext.drew _)⟩
                    case measure => simp [intOf]; omega
                  | false =>
                    have hc1' : wr.cell? ⟨b1, o1 + d, none⟩ = some (.int .i64 d) := hc1
                    have hq5 : ((d : Int) == (d : Int)) = true := by simp
                    clear hc1
                    go_wp2_with fail
                    refine wp_region_ext [(0, true), (1, true), (2, true), (3, true), (4, true), (5, true), (6, true), (7, true), (8, true), (9, true), (10, true), (11, true), (12, true)] (by kernel_rfl) (by kernel_rfl) ?_
                    iterate 13 (first
                     | (refine ext_move rfl rfl (by rfl) (by rfl) ?_; simp only [Act.put, List.setIfInBounds_toArray, List.set_cons_zero, List.set_cons_succ])
                     | (refine ext_assign rfl rfl (by rfl) (by rfl) ?_; simp only [Act.put, List.setIfInBounds_toArray, List.set_cons_zero, List.set_cons_succ])
                     | (refine ext_pick_t rfl rfl (by rfl) (by rfl) (by rfl) ?_; simp only [Act.put, List.setIfInBounds_toArray, List.set_cons_zero, List.set_cons_succ])
                     | (refine ext_pick_f rfl rfl (by rfl) (by rfl) (by rfl) ?_; simp only [Act.put, List.setIfInBounds_toArray, List.set_cons_zero, List.set_cons_succ])
                     | (apply ext_take rfl (by rfl)
                        · intro w' hS
                          have hSc := hS.cells
                          (try simp only [World.size_drew, World.cell?_drew] at hSc)
                          go_simp
                          (try simp (disch := omega) only [i64_id, u64_id, ↓IntWalk.iteOmega, Int.tdiv_eq_ediv_of_nonneg, Int.tmod_eq_emod_of_nonneg])
                          try rfl
                        simp only [Act.put, List.setIfInBounds_toArray, List.set_cons_zero, List.set_cons_succ])
                     | (refine ext_pass rfl (by rfl) ?_; simp only [Act.put, List.setIfInBounds_toArray, List.set_cons_zero, List.set_cons_succ]))
                    refine ext_nil ?_
                    go_wp2_with fail
                    go_roundw
                    case rel => exact ⟨d + 1, by omega, by go_num, HXq.out.trans (Ext.drew _)⟩
                    case measure => simp [intOf]; omega
                · have hdn : n = d := by omega
                  subst hdn
                  have hin4 : ¬ ((n : Int) < (n : Int)) := by omega
                  go_wp2_with fail
                  go_ret
                  exact ⟨rfl, (HX10.out.trans HX4.out).trans HXq.out⟩
end Go.Proofs.Ytpmbbeflgifgaaa
