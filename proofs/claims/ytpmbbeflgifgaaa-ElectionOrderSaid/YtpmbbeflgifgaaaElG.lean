/-
  Chapter 31 (election): sides.
-/
import Derived.Test.YtpmbbeflgifgaaaElF
namespace Go.Proofs.Ytpmbbeflgifgaaa
open Go.RowKit
set_option linter.unusedVariables false

def genN (ls : List LD) (i : Nat) : Nat := (ldN ls i).1.gen.toNat
def maxG (ls : List LD) (cs : List Nat) : Nat := (cs.map (genN ls)).foldl max 0
def gOf (ls : List LD) (top : Nat) (cs : List Nat) : List (List Nat) := El.groupsOf (eqN ls) (fun i => genN ls i == top) cs
theorem maxG_next {ls : List LD} {cs : List Nat} {k : Nat} (h : k < cs.length) : maxG ls (cs.take (k + 1)) = max (maxG ls (cs.take k)) (genN ls cs[k]) := by
  unfold maxG
  rw [List.take_succ_eq_append_getElem h, List.map_append, List.foldl_append]; rfl
theorem gOf_next {ls : List LD} {top : Nat} {cs : List Nat} {k : Nat} (h : k < cs.length) : gOf ls top (cs.take (k + 1)) = if genN ls cs[k] == top then El.addG (eqN ls) (gOf ls top (cs.take k)) cs[k] else gOf ls top (cs.take k) := by
  unfold gOf El.groupsOf
  rw [List.take_succ_eq_append_getElem h, List.foldl_append]; rfl
theorem run_maxU {P : Program} (w : World) (ts : Array TypeId) (t : TypeId) (a b : Int) :
    (Builtin.max_ ts t #[.int .u64 a, .int .u64 b]).run P w = .ok (.int .u64 (max a b)) w := by
  have e : (if a < b then b else a) = max a b := by split <;> omega
  have : (Builtin.max_ ts t #[.int .u64 a, .int .u64 b]).run P w = .ok (.int .u64 (if a < b then b else a)) w := rfl
  rw [this, e]
theorem LabAt.gen {w : World} {g o : Nat} {ls : List LD} {i : Nat} {d : Value} (h : LabAt w g o (ldN ls i).1 d) : w.cell? ⟨g, o + 2, none⟩ = some (.int .u64 (genN ls i : Nat)) := h.cell 2 rfl
/-- the groups, while they grow -/
def SidesRel (w1 wr : World) (b k : Nat) (ot : Value) (gs : List (List Nat)) : Prop := ∃ vs m D, GrowV wr w1.heap.size ot vs gs ∧ MapAt wr b m D ∧ m ≤ k ∧ Ext w1 wr ∧ w1.heap.size ≤ b
def CutRel (w1 wx : World) (b k g2 y : Nat) (s9 s12 : Value) (gs : List (List Nat)) : Prop :=
  ∃ gs' kk vs m D, s12 = encN kk ∧ kk < gs'.length ∧ gs'.length ≤ 1001 ∧ (gs'.getD kk []).length ≤ 1000 ∧ gs = gs'.set kk (gs'.getD kk [] ++ [y]) ∧ GrowV wx w1.heap.size s9 vs gs' ∧ MapAt wx b m D ∧ m ≤ k ∧ Ext w1 wx ∧ (∀ j (h : j < vs.length) q, vs[j].ownBlock = some q → q < g2) ∧ w1.heap.size ≤ g2 ∧ BoxAt wx g2 #[encN y] 3
def SidesEnd (w : World) (gs : List (List Nat)) (e : Ending) (w' : World) : Prop := ∃ v, e = .returned v ∧ RowsAt w' v gs ∧ Ext w w'
theorem SidesRel.ext {w1 w w' : World} {b k : Nat} {v : Value} {gs : List (List Nat)} (h : SidesRel w1 w b k v gs) (e : Ext w w') : SidesRel w1 w' b (k + 1) v gs := by
  obtain ⟨vs, m, D, h1, h2, h3, h4, h5⟩ := h
  exact ⟨vs, m, D, h1.ext e, map_ext h2 e, by omega, h4.trans e, h5⟩
theorem addG_ok {eq : Nat → Nat → Bool} {gs : List (List Nat)} {i m : Nat} {P : Nat → Prop} (h : gs.length ≤ m ∧ ∀ g, g ∈ gs → 0 < g.length ∧ g.length ≤ m ∧ ∀ j, j ∈ g → P j) (hi : P i) :
    (El.addG eq gs i).length ≤ m + 1 ∧ ∀ g, g ∈ El.addG eq gs i → 0 < g.length ∧ g.length ≤ m + 1 ∧ ∀ j, j ∈ g → P j := by
  unfold El.addG
  split
  · rename_i k hk
    rw [List.findIdx?_eq_some_iff_getElem] at hk
    obtain ⟨hk, _⟩ := hk
    refine ⟨by rw [List.length_set]; omega, fun g hg => ?_⟩
    rcases List.mem_or_eq_of_mem_set hg with hg | rfl
    · have := h.2 g hg
      exact ⟨this.1, by omega, this.2.2⟩
    · rw [getD_in hk]
      have := h.2 _ (List.getElem_mem hk)
      refine ⟨by simp, by rw [List.length_append, List.length_singleton]; omega, fun j hj => ?_⟩
      rw [List.mem_append, List.mem_singleton] at hj
      rcases hj with hj | rfl
      · exact this.2.2 j hj
      · exact hi
  · refine ⟨by rw [List.length_append, List.length_singleton]; omega, fun g hg => ?_⟩
    rw [List.mem_append, List.mem_singleton] at hg
    rcases hg with hg | rfl
    · have := h.2 g hg
      exact ⟨this.1, by omega, this.2.2⟩
    · exact ⟨by simp, by simp, fun j hj => by rw [List.mem_singleton] at hj; rw [hj]; exact hi⟩
theorem gOf_ok (ls : List LD) (top : Nat) (cs : List Nat) : ∀ k, k ≤ cs.length → (gOf ls top (cs.take k)).length ≤ k ∧ ∀ g, g ∈ gOf ls top (cs.take k) → 0 < g.length ∧ g.length ≤ k ∧ ∀ j, j ∈ g → j ∈ cs
  | 0, _ => ⟨by simp [gOf, El.groupsOf], by simp [gOf, El.groupsOf]⟩
  | k + 1, hk => by
    have ih := gOf_ok ls top cs k (by omega)
    rw [gOf_next (show k < cs.length by omega)]
    split
    · exact addG_ok (P := fun j => j ∈ cs) ih (List.getElem_mem _)
    · exact ⟨by omega, fun g hg => ⟨(ih.2 g hg).1, by have := (ih.2 g hg).2.1; omega, (ih.2 g hg).2.2⟩⟩
theorem headD_in {s : List Nat} (h : 0 < s.length) : s.headD 0 ∈ s := by rw [head_get h]; exact List.getElem_mem h
theorem infoS : (Try.prog.info? 56).map (fun i => (i.zero, i.size, i.bytes)) = some (some (.slice none 0 0), 1, 24) := by kernel_rfl
set_option maxRecDepth 100000 in
set_option maxHeartbeats 4000000 in
theorem sides_any (vl vc : Value) (ls : List LD) (cs : List Nat) (w : World) (hn : ls.length ≤ 1000) (hcs : cs.length ≤ 1000) (hpc : ∀ i, i ∈ cs → i < ls.length) (hdl : ∀ i, (ldN ls i).2.length ≤ 100000)
    (h : LabsAt w vl ls) (hc : SliceAt encN w vc cs) :
    Calls Try.prog 31 #[vl, vc] w (SidesEnd w (gOf ls (maxG ls cs) cs)) := by
  obtain ⟨i0, hI, hI0, hI1, hI2⟩ := info_parts infoI
  obtain ⟨j0, hJ, hJ0, hJ1, hJ2⟩ := info_parts infoS
  obtain ⟨al, cl, rfl⟩ := h.shape
  obtain ⟨ad, cap, rfl⟩ := hc.shape
  have e1 : Ext w (w.alloc (.cells #[.slice al ls.length cl] 22)) := Ext.alloc _ _
  have HL := Lib.hid (h.ext e1)
  have HC := Lib.hid (hc.ext e1)
  have hbx : BoxAt (w.alloc (.cells #[.slice al ls.length cl] 22)) w.heap.size #[.slice al ls.length cl] 22 := BoxAt.new _ _ _
  have HB := Lib.hid hbx
  have HE1 := Lib.hid e1
  have HP := Lib.hid hpc
  have hsz1 : w.heap.size < (w.alloc (.cells #[.slice al ls.length cl] 22)).heap.size := by simp
  obtain ⟨n, hnn⟩ : ∃ n, cs.length = n := ⟨_, rfl⟩
  have HN := Lib.hid hnn
  rw [hnn] at HC hcs ⊢
  have hmm := @run_makeMap Try.prog
  clear h hc hbx e1 hpc hnn
  go_enter Try.func31, Try.ntmps31
  go_wp2_with fail
  generalize w.alloc (.cells #[.slice al ls.length cl] 22) = w1 at *
  have hcb := HB.out.cell 0 (v := .slice al ls.length cl) rfl
  go_loop [5, 15] (fun mt it => ∃ k : Nat, k ≤ n ∧ it = .int .i64 k ∧ mt = .int .u64 (maxG ls (cs.take k) : Nat)) (fun _ it => n - (intOf it).toNat)
  case atStart => exact ⟨0, Nat.zero_le _, rfl, rfl⟩
  case round =>
    obtain ⟨k, hk, rfl, rfl⟩ := hrel
    by_cases hlt : k < n
    · have hin : (k : Int) < (n : Int) := by omega
      have hkl : k < cs.length := by rw [HN.out]; exact hlt
      obtain ⟨b, off, rfl, hb, hck⟩ := HC.out.get k hkl
      have hy := HP.out _ (List.getElem_mem hkl)
      have HMX := Lib.hid (maxG_next (ls := ls) hkl)
      generalize cs[k] = y at *
      obtain ⟨bl, ol, rfl, dv, hA, hD⟩ := HL.out.at y hy
      have c2 := hA.gen
      have hbl := hA.2
      generalize genN ls y = G at *
      generalize maxG ls (cs.take k) = M at *
      have hMax := fun (w : World) (ts : Array TypeId) (t : TypeId) => run_maxU (P := Try.prog) w ts t (M : Int) (G : Int)
      rw [show max (M : Int) (G : Int) = ((max M G : Nat) : Int) by omega] at hMax
      obtain ⟨q, hq⟩ : ∃ q, max M G = q := ⟨_, rfl⟩
      rw [hq] at hMax HMX
      have hyi : (y : Int) < (ls.length : Int) := by omega
      clear hq hA hD
      go_wp2_with fail
      go_round
      case rel => exact ⟨k + 1, by omega, by go_num, by rw [HMX.out]⟩
      case measure => simp [intOf]; omega
    · have hkm : k = n := by omega
      subst hkm
      have hin2 : ¬ ((k : Int) < (k : Int)) := by omega
      rw [show cs.take k = cs by rw [← HN.out, List.take_length]]
      generalize maxG ls cs = top at *
      have HST : Hid (SidesRel w1 (w1.alloc (.map #[] 0)) w1.heap.size 0 (.slice none 0 0) (gOf ls top (cs.take 0))) :=
        ⟨[], 0, _, GrowV.start, World.ownsMap_made _ _ _ _, Nat.le_refl _, Ext.alloc _ _, Nat.le_refl _⟩
      go_wp2_with fail
      clear hmm
      generalize w1.alloc (.map #[] 0) = w2 at *
      have HN2 := Lib.hid HN.out
      clear HN
      go_loopw [9, 30] (fun vt it wr => ∃ i : Nat, i ≤ k ∧ it = .int .i64 i ∧ Hid (SidesRel w1 wr w1.heap.size i vt (gOf ls top (cs.take i)))) (fun _ it _ => k - (intOf it).toNat)
      case atStart => exact ⟨0, Nat.zero_le _, rfl, HST⟩
      case round =>
        obtain ⟨i, hi, rfl, HR⟩ := hrel
        by_cases hlt2 : i < k
        · have hin : (i : Int) < (k : Int) := by omega
          have hil : i < cs.length := by rw [HN2.out]; exact hlt2
          obtain ⟨vs0, m0, D0, hV0, hM0, hm0, hx0, _⟩ := HR.out
          have hx0' := hx0
          obtain ⟨ao, co, hsh⟩ := hV0.1.shape
          rw [hV0.2.1] at hsh
          subst hsh
          have HM0 := Lib.hid hM0
          have HMZ := Lib.hid hm0
          obtain ⟨b, off, rfl, hb, hck⟩ := (HC.out.ext hx0).get i hil
          have hy := HP.out _ (List.getElem_mem hil)
          have HNX := Lib.hid (gOf_next (ls := ls) (top := top) hil)
          generalize cs[i] = y at *
          obtain ⟨bl, ol, rfl, dv, hA, hD⟩ := HL.out.at y hy
          have hyi : (y : Int) < (ls.length : Int) := by omega
          have hok := gOf_ok ls top cs i (by omega)
          have hgl : (gOf ls top (cs.take i)).length ≤ 1000 := by omega
          have HGM : Hid (∀ g, g ∈ gOf ls top (cs.take i) → 0 < g.length ∧ g.headD 0 < ls.length) := fun g hg => ⟨(hok.2 g hg).1, HP.out _ ((hok.2 g hg).2.2 _ (headD_in (hok.2 g hg).1))⟩
          have HGM2 : Hid (∀ g, g ∈ gOf ls top (cs.take i) → g.length ≤ 1000) := fun g hg => by have := (hok.2 g hg).2.1; omega
          have HBLK : Hid (∀ j (h : j < vs0.length) q, vs0[j].ownBlock = some q → q < wr.heap.size) := fun j h q hq => (OwnG.lt (hV0.2.2.1 j h (by rw [← hV0.2.1]; exact h)) q hq).2
          clear hok
          generalize gOf ls top (cs.take i) = gs at *
          have hsz2 := hx0.size
          have HX0 := Lib.hid hx0
          have HV0 := Lib.hid hV0
          have HA := Lib.hid hA
          have ew : Ext wr (wr.alloc (.cells #[encN y] 3)) := Ext.alloc _ _
          have HBX : Hid (BoxAt (wr.alloc (.cells #[encN y] 3)) wr.heap.size #[encN y] 3) := BoxAt.new _ _ _
          have HEW := Lib.hid ew
          have hgz : wr.heap.size < (wr.alloc (.cells #[encN y] 3)).heap.size := by simp
          have hcbr : wr.cell? ⟨w.heap.size, 0, none⟩ = some (.slice (some ⟨bl, ol, none⟩) ls.length cl) := (hx0.cell _ _ hsz1).trans hcb
          clear hV0 hM0 hm0 hD hx0' hA ew hx0
          go_upto_region 12 with fail
          generalize wr.alloc (.cells #[encN y] 3) = wa at *
          have hcg := (HA.out.ext (HX0.out.trans HEW.out)).gen
          have hcb2 := (HEW.out.cell _ _ (Nat.lt_of_lt_of_le hsz1 hsz2)).trans hcbr
          have hcy := HBX.out.cell 0 (v := encN y) rfl
          have hl1 := HBX.out.lt
          have hl2 := (HA.out.ext (HX0.out.trans HEW.out)).2
          have hl3 : w.heap.size < wa.heap.size := Nat.lt_trans (Nat.lt_of_lt_of_le hsz1 hsz2) hgz
          clear hcbr hck hb
          by_cases hgt : genN ls y = top
          · have hne : ((genN ls y : Int) != (top : Int)) = false := by rw [hgt]; simp
            have HNX2 : Hid (gOf ls top (cs.take (i + 1)) = El.addG (eqN ls) gs y) := by show _ = _; rw [HNX.out, if_pos (by simpa using hgt)]
            clear hgt
            go_wp2_with fail
            go_at_call 39
            refine (index_any _ _ ls gs y w.heap.size wr.heap.size _ hn hgl HGM.out hy hdl (HL.out.ext (HX0.out.trans HEW.out)) (HV0.out.ext HEW.out).rows hcb2 hl3 hcy hl1).mono ?_
            rintro e w3 ⟨rfl, hb3⟩
            have HX3 : Hid (Ext wr w3) := HEW.out.trans hb3
            have hbx3 := HBX.out.ext hb3
            have HO : Hid (El.addG (eqN ls) gs y = match gs.findIdx? fun g => eqN ls (g.headD 0) y with | some k => gs.set k (gs.getD k [] ++ [y]) | none => gs ++ [[y]]) := rfl
            obtain ⟨o, ho⟩ : ∃ o, (gs.findIdx? fun g => eqN ls (g.headD 0) y) = o := ⟨_, rfl⟩
            have HOL : Hid (∀ kk, o = some kk → kk < gs.length) := fun kk e => by
              rw [e, List.findIdx?_eq_some_iff_getElem] at ho
              exact ho.1
            rw [ho] at HO ⊢
            clear ho
            have HBX3 := Lib.hid hbx3
            clear hbx3 hb3 hcb2 hcg hl2
            go_upto_if 45 with fail
            go_cut [9, 12] (fun s9 s12 wx => CutRel w1 wx w1.heap.size i wr.heap.size y s9 s12 (gOf ls top (cs.take (i + 1))))
            case first =>
              cases o with
              | some kk =>
                have hkk := HOL.out kk rfl
                have hd1 : decide ((kk : Int) < 0) = false := by rw [decide_eq_false_iff_not]; omega
                unfold idxZ
                go_wp2_with fail
                go_meet
                exact ⟨gs, kk, vs0, m0, D0, rfl, hkk, by omega, by rw [getD_in hkk]; exact HGM2.out _ (List.getElem_mem hkk), by rw [HNX2.out, HO.out], HV0.out.ext HX3.out, map_ext HM0.out HX3.out, HMZ.out, HX0.out.trans HX3.out, HBLK.out, hsz2, HBX3.out⟩
              | none =>
                unfold idxZ
                go_wp2_with (at_builtin; refine Classical.byContradiction (fun hN => ?_))
                refine hN ?_
                clear hN
                have e1 : Ext w3 (w3.alloc (.cells #[.slice none 0 0] 56)) := Ext.alloc _ _
                have hvv := (HV0.out.ext HX3.out).ext e1
                have hown := hvv.1
                have hvl := hvv.2.1
                have hsz3 : w1.heap.size ≤ w3.heap.size := (HX0.out.trans HX3.out).size
                refine wpList_append_one rfl _ _ _ rfl w1.heap.size 56 j0 (.slice none 0 0) 24 Try.underlying54 hJ hJ0 hJ1 hJ2 rfl _ _ _ rfl hown _ (.slice none 0 0) rfl rfl (cell_new1 _ _ _) (by rw [hvl]; unfold maxLen; omega) (by rw [hvl]; omega) (by simp; omega) ?_
                intro v6 w6 ho6 hg6 _
                have HG6 := Lib.hid (hvv.nil ho6 hg6)
                have hx6 : Below w1.heap.size w1 w6 := ((HX0.out.trans HX3.out).trans e1).grown hg6 (by simp; omega) (fun q hq => (hown.lt q hq).1)
                have HX6 := Lib.hid hx6
                have HM6 : Hid (MapAt w6 w1.heap.size m0 D0) := (map_ext (map_ext HM0.out HX3.out) e1).kept hg6 (fun e => own_not_map hown (map_ext (map_ext HM0.out HX3.out) e1) e.symm)
                have HB6 : Hid (BoxAt w6 wr.heap.size #[encN y] 3) := (HBX3.out.ext e1).grown hg6 (fun e => hown.not_box (HBX3.out.ext e1) (by decide) e.symm)
                clear ho6 hg6 hown hvv e1 hx6 hvl
                go_wp2_with fail
                go_meet
                exact ⟨gs ++ [[]], gs.length, vs0 ++ [.slice none 0 0], m0, D0, rfl, by simp, by simp; omega, by simp, by rw [HNX2.out, HO.out]; simp, HG6.out, HM6.out, HMZ.out, HX6.out, fun j hj q hq => by
                  by_cases hj2 : j < vs0.length
                  · rw [List.getElem_append_left hj2] at hq; exact HBLK.out j hj2 q hq
                  · have hj3 : j = vs0.length := by rw [List.length_append, List.length_singleton] at hj; omega
                    subst hj3
                    rw [List.getElem_append_right (Nat.le_refl _)] at hq
                    simp [Value.ownBlock] at hq, hsz2, HB6.out⟩
            case rest =>
              obtain ⟨gs', kk, vs1, m1, D1, rfl, hkk, hgl', hgk, hgs', hV1, hM1, hm1, hx1, hblk, hgb, hbx⟩ := hcut
              have HBK := Lib.hid hblk
              rw [getD_in hkk] at hgk
              have hkv : kk < vs1.length := by rw [hV1.2.1]; exact hkk
              obtain ⟨g9, c9, hs9, hg9, hl9⟩ := hV1.1.form (by omega)
              rw [hV1.2.1] at hs9
              subst hs9
              have HV1 := Lib.hid hV1
              have HM1 := Lib.hid hM1
              have HBX1 := Lib.hid hbx
              have HX1 := Lib.hid hx1
              have HGS := Lib.hid hgs'
              have hsz4 := hx1.size
              have hgl4 := hbx.lt
              have hcy4 := hbx.cell 0 (v := encN y) rfl
              clear hblk hV1 hM1 hbx hx1 hgs' HX3 HBX3 HV0 HM0 HO HOL
              go_wp2_with (at_mapUpdate; refine Classical.byContradiction (fun hN => ?_))
              refine hN ?_
              clear hN
              refine wpList_mapUpdate_own _ rfl _ _ _ 64 rfl 3 3 keyed_int Try.underlying64 (plainElem Try.prog 3) _ m1 D1 rfl HM1.out (by unfold maxLen; omega) _ _ _ rfl rfl (key_place (by omega)) _ [] (plainElem_int Try.underlying3 (by simp [Lit.wf, IntKind.min, IntKind.max, IntKind.signed, IntKind.bits]; omega)) ?_
              intro w5 hM5 hg5
              have HX5 : Hid (Ext w1 w5) := Below.grown HX1.out hg5 HX1.out.size (fun q hq => by cases hq; exact Nat.le_refl _)
              have HV5 := Lib.hid (HV1.out.map HM1.out hg5)
              have HB5 : Hid (BoxAt w5 wr.heap.size #[encN y] 3) := HBX1.out.grown hg5 (fun e => by
                injection e with e
                obtain ⟨es, clock, hmb, _⟩ := HM1.out
                have := HBX1.out
                rw [e] at this
                rw [show wc.heap[w1.heap.size]? = _ from this] at hmb
                cases hmb)
              have HM1Z := Lib.hid HM1.out.isMap
              have HLK := Lib.hid (look_put (by omega) (by omega) HM1.out.isMap hM5)
              have HM5 := Lib.hid hM5
              have hcy5 := HB5.out.cell 0 (v := encN y) rfl
              have hgl5 := HB5.out.lt
              have hlr5 : OwnG encN 3 w5 w1.heap.size vs1[kk] gs'[kk] := HV5.out.2.2.1 kk hkv hkk
              have hc9 := HV5.out.1.at HV5.out.2.1.symm hkv
              have hl95 : g9 < w5.heap.size := (OwnG.lt HV5.out.1 g9 (by simp [Value.ownBlock])).2
              have HLR5 := Lib.hid hlr5
              have HPUT := Lib.hid (fun w6 w7 v2 => HV5.out.put (w1 := w6) (w2 := w7) (v2 := v2) (x := y) hkv hkk rfl)
              have HBK2 := Lib.hid (HBK.out kk hkv)
              have HGK : Hid (gOf ls top (cs.take (i + 1)) = gs'.set kk (gs'[kk] ++ [y])) := by show _ = _; rw [HGS.out, getD_in hkk]
              generalize gs'[kk] = rl at *
              generalize hrv : vs1[kk] = rv at *
              have HRV := Lib.hid hrv
              clear hrv HBK
              have hkI : (kk : Int) < (gs'.length : Int) := by omega
              have hk0 : (0 : Int) ≤ (kk : Int) := by omega
              have hsz5 := HX5.out.size
              clear hM5 hg5 hlr5 hcy4 hcy HGS HV1 HM1
              go_wp2_with fail
              have hc9' : w5.cell? ⟨g9, kk, none⟩ = some rv := hc9
              refine wp_region_fix (fun w' => w'.cell? ⟨wr.heap.size, 0, none⟩ = some (encN y) ∧ w'.cell? ⟨g9, kk, none⟩ = some rv ∧ (Instr.lookup 64 (.map (some w1.heap.size)) (encN y) false).run Try.prog w' = .ok (encN kk) w') [(0, true), (1, true), (2, true), (3, true), (4, true), (5, true), (6, true), (7, true), (8, true), (9, true), (10, true), (11, false), (12, false), (13, true), (14, false)] (by kernel_rfl) (by kernel_rfl) ?_ ?_
              · exact ⟨hcy5, hc9', HLK.out _ (Ext.drew _)⟩
              iterate 11 (first
               | (refine fix_move rfl rfl (by rfl) (by rfl) ?_; simp only [Act.put, List.setIfInBounds_toArray, List.set_cons_zero, List.set_cons_succ])
               | (apply fix_take rfl (by rfl)
                  · intro w' hSc
                    go_simp
                    (try simp (disch := omega) only [i64_id, u64_id, ↓IntWalk.iteOmega, Int.tdiv_eq_ediv_of_nonneg, Int.tmod_eq_emod_of_nonneg])
                    try rfl
                  simp only [Act.put, List.setIfInBounds_toArray, List.set_cons_zero, List.set_cons_succ])
               | (refine fix_pass rfl (by rfl) ?_; simp only [Act.put, List.setIfInBounds_toArray, List.set_cons_zero, List.set_cons_succ]))
              refine fix_do rfl (by rfl) (fun K hK => ?_)
              go_simp
              refine hK _ _ ⟨?_, ?_, ?_⟩ ?_
              · exact (((Ext.alloc w5 (.cells #[encN y] 3)).trans (Ext.drew _)).cell _ _ hgl5).trans hcy5
              · exact (((Ext.alloc w5 (.cells #[encN y] 3)).trans (Ext.drew _)).cell _ _ hl95).trans hc9'
              · exact HLK.out _ ((Ext.alloc w5 (.cells #[encN y] 3)).trans (Ext.drew _))
              clear hK K
              (try simp only [Act.put, List.setIfInBounds_toArray, List.set_cons_zero, List.set_cons_succ])
              have hx6 : Ext w5 (w5.alloc (.cells #[encN y] 3)).drew := (Ext.alloc _ _).trans (Ext.drew _)
              have hb6 : BoxAt (w5.alloc (.cells #[encN y] 3)).drew w5.heap.size #[encN y] 3 := (BoxAt.new _ _ _).ext (Ext.drew _)
              generalize (w5.alloc (.cells #[encN y] 3)).drew = w6 at *
              have ho6 := HLR5.out.ext hx6
              have hb6y := HB5.out.ext hx6
              refine fix_do rfl (by rfl) (fun K hK => ?_)
              refine wp_of_list rfl ?_
              refine wpList_append_one rfl _ _ 56 rfl w1.heap.size 3 i0 (.int .i64 0) 8 Try.underlying56 hI hI0 hI1 hI2 rfl rv _ _ rfl ho6 _ (encN y) rfl rfl (hb6.cell 0 rfl) (by unfold maxLen; omega) (by omega) (by have := hx6.size; omega) ?_
              intro v7 w7 ho7 hg7 hat7
              obtain ⟨hout, hput⟩ := HPUT.out w6 w7 v7 hx6 ho7 hg7 hat7
              have hx7 : Ext w1 w7 := Below.grown (HX5.out.trans hx6) hg7 (HX5.out.trans hx6).size (fun q hq => (OwnG.lt ho6 q hq).1)
              have HM7 : Hid (MapAt w7 w1.heap.size (m1 + 1) (D1.put (.int .i64 y) (.lit (.int .i64 kk)))) := (map_ext HM5.out hx6).kept hg7 (fun e => own_not_map ho6 (map_ext HM5.out hx6) e.symm)
              have hc97 : w7.cell? ⟨g9, kk, none⟩ = some rv := by rw [← HRV.out]; exact hout.at (show gs'.length = vs1.length from HV5.out.2.1.symm) hkv
              have hng : w1.heap.size ≠ g9 := fun e => own_not_map hout HM7.out (by simp [Value.ownBlock, e])
              have hf97 := hout.frees (show gs'.length = vs1.length from HV5.out.2.1.symm) kk
              have hl97 : g9 < w7.heap.size := (OwnG.lt hout g9 (by simp [Value.ownBlock])).2
              obtain ⟨a7, c7, rfl⟩ : ∃ a c, v7 = .slice a (rl.length + 1) c := by
                have h7 : OwnG encN 3 w7 w1.heap.size v7 (rl ++ [y]) := OwnG.snoc (enc := encN) (x := y) ho7
                obtain ⟨a, c, e⟩ := h7.shape
                exact ⟨a, c, by rw [e, List.length_append, List.length_singleton]⟩
              have HX7 := Lib.hid hx7
              have HP7 := Lib.hid hput
              have hb7y := hb6y.grown hg7 (fun e => by have := HBK2.out _ e.symm; omega)
              clear ho7 hg7 hat7 hput hx7 ho6 hb6 hx6 hout
              refine hK _ _ ⟨hb7y.cell 0 rfl, hc97, look_put (by omega) (by omega) HM1Z.out HM7.out _ (Ext.refl _)⟩ ?_
              clear hK K hb6y hb7y
              (try simp only [Act.put, List.setIfInBounds_toArray, List.set_cons_zero, List.set_cons_succ])
              (first
               | (refine fix_move rfl rfl (by rfl) (by rfl) ?_; simp only [Act.put, List.setIfInBounds_toArray, List.set_cons_zero, List.set_cons_succ])
               | (apply fix_take rfl (by rfl)
                  · intro w' hSc
                    go_simp
                    (try simp (disch := omega) only [i64_id, u64_id, ↓IntWalk.iteOmega, Int.tdiv_eq_ediv_of_nonneg, Int.tmod_eq_emod_of_nonneg])
                    try rfl
                  simp only [Act.put, List.setIfInBounds_toArray, List.set_cons_zero, List.set_cons_succ])
               | (refine fix_pass rfl (by rfl) ?_; simp only [Act.put, List.setIfInBounds_toArray, List.set_cons_zero, List.set_cons_succ]))
              refine fix_last rfl (by rfl) (by kernel_rfl) (fun K hK => ?_)
              go_simp
              refine hK _ _ ?_
              clear hK K
              (try simp only [Act.put, List.setIfInBounds_toArray, List.set_cons_zero, List.set_cons_succ])
              go_wp2_with fail
              have hr7 : SidesRel w1 (w7.setCell ⟨g9, kk, none⟩ (.slice a7 (rl.length + 1) c7)) w1.heap.size (i + 1) (.slice (some ⟨g9, 0, none⟩) gs'.length (c9 + 1)) (gs'.set kk (rl ++ [y])) :=
                ⟨_, m1 + 1, _, HP7.out, HM7.out.setCell hng _, by omega, Ext.setOwn HX7.out hg9, Nat.le_refl _⟩
              go_roundw
              case rel => exact ⟨i + 1, by omega, by go_num, by rw [HGK.out]; exact hr7⟩
              case measure => simp [intOf]; omega
          · have hne : ((genN ls y : Int) != (top : Int)) = true := by rw [bne, Bool.not_eq_true', beq_eq_false_iff_ne]; omega
            have HNX2 : Hid (gOf ls top (cs.take (i + 1)) = gs) := by show _ = _; rw [HNX.out, if_neg (by simpa using hgt)]
            clear hgt
            go_wp2_with fail
            go_roundw
            case rel => exact ⟨i + 1, by omega, by go_num, by rw [HNX2.out]; exact HR.out.ext HEW.out⟩
            case measure => simp [intOf]; omega
        · have hik : i = k := by omega
          subst hik
          have hin3 : ¬ ((i : Int) < (i : Int)) := by omega
          rw [show cs.take i = cs by rw [← HN2.out, List.take_length]] at HR
          obtain ⟨vs0, m0, D0, hV0, _, _, hx0, _⟩ := HR.out
          have HV0 := Lib.hid hV0
          have HX0 := Lib.hid hx0
          clear hV0 hx0
          go_wp2_with fail
          refine bodyPost_ret ?_ rfl ⟨_, rfl, HV0.out.rows, HE1.out.trans HX0.out⟩
          simp only [results, Try.results31]
          go_simp
end Go.Proofs.Ytpmbbeflgifgaaa
