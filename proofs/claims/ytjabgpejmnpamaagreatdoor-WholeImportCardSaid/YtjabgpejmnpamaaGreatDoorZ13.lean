/-
  Part 13 of the proof: Chapter 31 (election): sides. Chapter 31 (election): choose. Chapter 31 (election): Clone of a list of Bools; Count and Out of both Chapter 31 (election): the plain law: the places of the disks in servi Chapter 31 (election): what is elected, as a plain function of the lab
-/
import Derived.Test.YtjabgpejmnpamaaGreatDoorZ12
import Derived.ProofKit
import Derived.Test.YtjabgpejmnpamaaGreatDoorZ11
set_option linter.unusedVariables false
namespace Go.Proofs.YtjabgpejmnpamaaGreatDoor
open Go.RowKit
def genN (ls : List LD) (i : Nat) : Nat := (ldN ls i).1.gen.toNat
def maxG (ls : List LD) (cs : List Nat) : Nat := (cs.map (genN ls)).foldl max 0
def gOf (ls : List LD) (top : Nat) (cs : List Nat) : List (List Nat) := El.groupsOf (eqN ls) (fun i => genN ls i == top) cs
theorem maxG_next {ls : List LD} {cs : List Nat} {k : Nat} (h : k < cs.length) : maxG ls (cs.take (k + 1)) = max (maxG ls (cs.take k)) (genN ls cs[k]) := by
  unfold maxG
  rw [List.take_succ_eq_append_getElem h, List.map_append, List.foldl_append]; rfl
theorem gOf_next {ls : List LD} {top : Nat} {cs : List Nat} {k : Nat} (h : k < cs.length) : gOf ls top (cs.take (k + 1)) = if genN ls cs[k] == top then El.addG (eqN ls) (gOf ls top (cs.take k)) cs[k] else gOf ls top (cs.take k) := by
  unfold gOf El.groupsOf
  rw [List.take_succ_eq_append_getElem h, List.foldl_append]; rfl
theorem run_maxU {P : Program} (w : World) (ts : Array TypeId) (t : TypeId) (a b : Int) :
    (Builtin.max_ ts t #[.int .u64 a, .int .u64 b]).run P w = .ok (.int .u64 (max a b)) w := by
  have e : (if a < b then b else a) = max a b := by split <;> omega
  have : (Builtin.max_ ts t #[.int .u64 a, .int .u64 b]).run P w = .ok (.int .u64 (if a < b then b else a)) w := rfl
  rw [this, e]
theorem LabAt.gen {w : World} {g o : Nat} {ls : List LD} {i : Nat} {d : Value} (h : LabAt w g o (ldN ls i).1 d) : w.cell? ⟨g, o + 2, none⟩ = some (.int .u64 (genN ls i : Nat)) := h.cell 2 rfl
def SidesRel (w1 wr : World) (b k : Nat) (ot : Value) (gs : List (List Nat)) : Prop := ∃ vs m D, GrowV wr w1.heap.size ot vs gs ∧ MapAt wr b m D ∧ m ≤ k ∧ Ext w1 wr ∧ w1.heap.size ≤ b
def CutRel (w1 wx : World) (b k g2 y : Nat) (s9 s12 : Value) (gs : List (List Nat)) : Prop :=
  ∃ gs' kk vs m D, s12 = encN kk ∧ kk < gs'.length ∧ gs'.length ≤ 1001 ∧ (gs'.getD kk []).length ≤ 1000 ∧ gs = gs'.set kk (gs'.getD kk [] ++ [y]) ∧ GrowV wx w1.heap.size s9 vs gs' ∧ MapAt wx b m D ∧ m ≤ k ∧ Ext w1 wx ∧ (∀ j (h : j < vs.length) q, vs[j].ownBlock = some q → q < g2) ∧ w1.heap.size ≤ g2 ∧ BoxAt wx g2 #[encN y] 3
def SidesEnd (w : World) (gs : List (List Nat)) (e : Ending) (w' : World) : Prop := ∃ v, e = .returned v ∧ elRowsAt w' v gs ∧ Ext w w'
theorem SidesRel.ext {w1 w w' : World} {b k : Nat} {v : Value} {gs : List (List Nat)} (h : SidesRel w1 w b k v gs) (e : Ext w w') : SidesRel w1 w' b (k + 1) v gs := by
  obtain ⟨vs, m, D, h1, h2, h3, h4, h5⟩ := h
  exact ⟨vs, m, D, h1.ext e, map_ext h2 e, by omega, h4.trans e, h5⟩
theorem addG_ok {eq : Nat → Nat → Bool} {gs : List (List Nat)} {i m : Nat} {P : Nat → Prop} (h : gs.length ≤ m ∧ ∀ g, g ∈ gs → 0 < g.length ∧ g.length ≤ m ∧ ∀ j, j ∈ g → P j) (hi : P i) :
    (El.addG eq gs i).length ≤ m + 1 ∧ ∀ g, g ∈ El.addG eq gs i → 0 < g.length ∧ g.length ≤ m + 1 ∧ ∀ j, j ∈ g → P j := by
  unfold El.addG
  split
  · rename_i k hk
    rw [List.findIdx?_eq_some_iff_getElem] at hk
    obtain ⟨hk, _⟩ := hk
    refine ⟨by rw [List.length_set]; omega, fun g hg => ?_⟩
    rcases List.mem_or_eq_of_mem_set hg with hg | rfl
    · have := h.2 g hg
      exact ⟨this.1, by omega, this.2.2⟩
    · rw [getD_in hk]
      have := h.2 _ (List.getElem_mem hk)
      refine ⟨by simp, by rw [List.length_append, List.length_singleton]; omega, fun j hj => ?_⟩
      rw [List.mem_append, List.mem_singleton] at hj
      rcases hj with hj | rfl
      · exact this.2.2 j hj
      · exact hi
  · refine ⟨by rw [List.length_append, List.length_singleton]; omega, fun g hg => ?_⟩
    rw [List.mem_append, List.mem_singleton] at hg
    rcases hg with hg | rfl
    · have := h.2 g hg
      exact ⟨this.1, by omega, this.2.2⟩
    · exact ⟨by simp, by simp, fun j hj => by rw [List.mem_singleton] at hj; rw [hj]; exact hi⟩
theorem gOf_ok (ls : List LD) (top : Nat) (cs : List Nat) : ∀ k, k ≤ cs.length → (gOf ls top (cs.take k)).length ≤ k ∧ ∀ g, g ∈ gOf ls top (cs.take k) → 0 < g.length ∧ g.length ≤ k ∧ ∀ j, j ∈ g → j ∈ cs
  | 0, _ => ⟨by simp [gOf, El.groupsOf], by simp [gOf, El.groupsOf]⟩
  | k + 1, hk => by
    have ih := gOf_ok ls top cs k (by omega)
    rw [gOf_next (show k < cs.length by omega)]
    split
    · exact addG_ok (P := fun j => j ∈ cs) ih (List.getElem_mem _)
    · exact ⟨by omega, fun g hg => ⟨(ih.2 g hg).1, by have := (ih.2 g hg).2.1; omega, (ih.2 g hg).2.2⟩⟩
theorem headD_in {s : List Nat} (h : 0 < s.length) : s.headD 0 ∈ s := by rw [head_get h]; exact List.getElem_mem h
theorem elinfoS : (Tryz.prog.info? 177).map (fun i => (i.zero, i.size, i.bytes)) = some (some (.slice none 0 0), 1, 24) := by kernel_rfl
set_option maxRecDepth 100000 in
set_option maxHeartbeats 4000000 in
theorem sides_any (vl vc : Value) (ls : List LD) (cs : List Nat) (w : World) (hn : ls.length ≤ 1000) (hcs : cs.length ≤ 1000) (hpc : ∀ i, i ∈ cs → i < ls.length) (hdl : ∀ i, (ldN ls i).2.length ≤ 100000)
    (h : LabsAt w vl ls) (hc : SliceAt encN w vc cs) :
    Calls Tryz.prog 81 #[vl, vc] w (SidesEnd w (gOf ls (maxG ls cs) cs)) := by
  obtain ⟨i0, hI, hI0, hI1, hI2⟩ := info_parts infoI
  obtain ⟨j0, hJ, hJ0, hJ1, hJ2⟩ := info_parts elinfoS
  obtain ⟨al, cl, rfl⟩ := h.shape
  obtain ⟨ad, cap, rfl⟩ := hc.shape
  have e1 : Ext w (w.alloc (.cells #[.slice al ls.length cl] 32)) := Ext.alloc _ _
  have HL := Lib.hid (h.ext e1)
  have HC := Lib.hid (hc.ext e1)
  have hbx : BoxAt (w.alloc (.cells #[.slice al ls.length cl] 32)) w.heap.size #[.slice al ls.length cl] 32 := BoxAt.new _ _ _
  have HB := Lib.hid hbx
  have HE1 := Lib.hid e1
  have HP := Lib.hid hpc
  have hsz1 : w.heap.size < (w.alloc (.cells #[.slice al ls.length cl] 32)).heap.size := by simp
  obtain ⟨n, hnn⟩ : ∃ n, cs.length = n := ⟨_, rfl⟩
  have HN := Lib.hid hnn
  rw [hnn] at HC hcs ⊢
  have hmm := @run_makeMap Tryz.prog
  clear h hc hbx e1 hpc hnn
  go_enter Tryz.func81, Tryz.ntmps81
  go_wp2_with fail
  generalize w.alloc (.cells #[.slice al ls.length cl] 32) = w1 at *
  have hcb := HB.out.cell 0 (v := .slice al ls.length cl) rfl
  go_loop [5, 15] (fun mt it => ∃ k : Nat, k ≤ n ∧ it = .int .i64 k ∧ mt = .int .u64 (maxG ls (cs.take k) : Nat)) (fun _ it => n - (intOf it).toNat)
  case atStart => exact ⟨0, Nat.zero_le _, rfl, rfl⟩
  case round =>
    obtain ⟨k, hk, rfl, rfl⟩ := hrel
    by_cases hlt : k < n
    · have hin : (k : Int) < (n : Int) := by omega
      have hkl : k < cs.length := by rw [HN.out]; exact hlt
      obtain ⟨b, off, rfl, hb, hck⟩ := HC.out.get k hkl
      have hy := HP.out _ (List.getElem_mem hkl)
      have HMX := Lib.hid (maxG_next (ls := ls) hkl)
      generalize cs[k] = y at *
      obtain ⟨bl, ol, rfl, dv, hA, hD⟩ := HL.out.at y hy
      have c2 := hA.gen
      have hbl := hA.2
      generalize genN ls y = G at *
      generalize maxG ls (cs.take k) = M at *
      have hMax := fun (w : World) (ts : Array TypeId) (t : TypeId) => run_maxU (P := Tryz.prog) w ts t (M : Int) (G : Int)
      rw [show max (M : Int) (G : Int) = ((max M G : Nat) : Int) by omega] at hMax
      obtain ⟨q, hq⟩ : ∃ q, max M G = q := ⟨_, rfl⟩
      rw [hq] at hMax HMX
      have hyi : (y : Int) < (ls.length : Int) := by omega
      clear hq hA hD
      go_wp2_with fail
      go_round
      case rel => exact ⟨k + 1, by omega, by go_num, by rw [HMX.out]⟩
      case measure => simp [intOf]; omega
    · have hkm : k = n := by omega
      subst hkm
      have hin2 : ¬ ((k : Int) < (k : Int)) := by omega
      rw [show cs.take k = cs by rw [← HN.out, List.take_length]]
      generalize maxG ls cs = top at *
      have HST : Hid (SidesRel w1 (w1.alloc (.map #[] 0)) w1.heap.size 0 (.slice none 0 0) (gOf ls top (cs.take 0))) :=
        ⟨[], 0, _, GrowV.start, World.ownsMap_made _ _ _ _, Nat.le_refl _, Ext.alloc _ _, Nat.le_refl _⟩
      go_wp2_with fail
      clear hmm
      generalize w1.alloc (.map #[] 0) = w2 at *
      have HN2 := Lib.hid HN.out
      clear HN
      go_loopw [9, 30] (fun vt it wr => ∃ i : Nat, i ≤ k ∧ it = .int .i64 i ∧ Hid (SidesRel w1 wr w1.heap.size i vt (gOf ls top (cs.take i)))) (fun _ it _ => k - (intOf it).toNat)
      case atStart => exact ⟨0, Nat.zero_le _, rfl, HST⟩
      case round =>
        obtain ⟨i, hi, rfl, HR⟩ := hrel
        by_cases hlt2 : i < k
        · have hin : (i : Int) < (k : Int) := by omega
          have hil : i < cs.length := by rw [HN2.out]; exact hlt2
          obtain ⟨vs0, m0, D0, hV0, hM0, hm0, hx0, _⟩ := HR.out
          have hx0' := hx0
          obtain ⟨ao, co, hsh⟩ := hV0.1.shape
          rw [hV0.2.1] at hsh
          subst hsh
          have HM0 := Lib.hid hM0
          have HMZ := Lib.hid hm0
          obtain ⟨b, off, rfl, hb, hck⟩ := (HC.out.ext hx0).get i hil
          have hy := HP.out _ (List.getElem_mem hil)
          have HNX := Lib.hid (gOf_next (ls := ls) (top := top) hil)
          generalize cs[i] = y at *
          obtain ⟨bl, ol, rfl, dv, hA, hD⟩ := HL.out.at y hy
          have hyi : (y : Int) < (ls.length : Int) := by omega
          have hok := gOf_ok ls top cs i (by omega)
          have hgl : (gOf ls top (cs.take i)).length ≤ 1000 := by omega
          have HGM : Hid (∀ g, g ∈ gOf ls top (cs.take i) → 0 < g.length ∧ g.headD 0 < ls.length) := fun g hg => ⟨(hok.2 g hg).1, HP.out _ ((hok.2 g hg).2.2 _ (headD_in (hok.2 g hg).1))⟩
          have HGM2 : Hid (∀ g, g ∈ gOf ls top (cs.take i) → g.length ≤ 1000) := fun g hg => by have := (hok.2 g hg).2.1; omega
          have HBLK : Hid (∀ j (h : j < vs0.length) q, vs0[j].ownBlock = some q → q < wr.heap.size) := fun j h q hq => (OwnG.lt (hV0.2.2.1 j h (by rw [← hV0.2.1]; exact h)) q hq).2
          clear hok
          generalize gOf ls top (cs.take i) = gs at *
          have hsz2 := hx0.size
          have HX0 := Lib.hid hx0
          have HV0 := Lib.hid hV0
          have HA := Lib.hid hA
          have ew : Ext wr (wr.alloc (.cells #[encN y] 3)) := Ext.alloc _ _
          have HBX : Hid (BoxAt (wr.alloc (.cells #[encN y] 3)) wr.heap.size #[encN y] 3) := BoxAt.new _ _ _
          have HEW := Lib.hid ew
          have hgz : wr.heap.size < (wr.alloc (.cells #[encN y] 3)).heap.size := by simp
          have hcbr : wr.cell? ⟨w.heap.size, 0, none⟩ = some (.slice (some ⟨bl, ol, none⟩) ls.length cl) := (hx0.cell _ _ hsz1).trans hcb
          clear hV0 hM0 hm0 hD hx0' hA ew hx0
          go_upto_region 12 with fail
          generalize wr.alloc (.cells #[encN y] 3) = wa at *
          have hcg := (HA.out.ext (HX0.out.trans HEW.out)).gen
          have hcb2 := (HEW.out.cell _ _ (Nat.lt_of_lt_of_le hsz1 hsz2)).trans hcbr
          have hcy := HBX.out.cell 0 (v := encN y) rfl
          have hl1 := HBX.out.lt
          have hl2 := (HA.out.ext (HX0.out.trans HEW.out)).2
          have hl3 : w.heap.size < wa.heap.size := Nat.lt_trans (Nat.lt_of_lt_of_le hsz1 hsz2) hgz
          clear hcbr hck hb
          by_cases hgt : genN ls y = top
          · have hne : ((genN ls y : Int) != (top : Int)) = false := by rw [hgt]; simp
            have HNX2 : Hid (gOf ls top (cs.take (i + 1)) = El.addG (eqN ls) gs y) := by show _ = _; rw [HNX.out, if_pos (by simpa using hgt)]
            clear hgt
            go_wp2_with fail
            go_at_call 128
            refine (index_any _ _ ls gs y w.heap.size wr.heap.size _ hn hgl HGM.out hy hdl (HL.out.ext (HX0.out.trans HEW.out)) (HV0.out.ext HEW.out).rows hcb2 hl3 hcy hl1).mono ?_
            rintro e w3 ⟨rfl, hb3⟩
            have HX3 : Hid (Ext wr w3) := HEW.out.trans hb3
            have hbx3 := HBX.out.ext hb3
            have HO : Hid (El.addG (eqN ls) gs y = match gs.findIdx? fun g => eqN ls (g.headD 0) y with | some k => gs.set k (gs.getD k [] ++ [y]) | none => gs ++ [[y]]) := rfl
            obtain ⟨o, ho⟩ : ∃ o, (gs.findIdx? fun g => eqN ls (g.headD 0) y) = o := ⟨_, rfl⟩
            have HOL : Hid (∀ kk, o = some kk → kk < gs.length) := fun kk e => by
              rw [e, List.findIdx?_eq_some_iff_getElem] at ho
              exact ho.1
            rw [ho] at HO ⊢
            clear ho
            have HBX3 := Lib.hid hbx3
            clear hbx3 hb3 hcb2 hcg hl2
            go_upto_if 45 with fail
            go_cut [9, 12] (fun s9 s12 wx => CutRel w1 wx w1.heap.size i wr.heap.size y s9 s12 (gOf ls top (cs.take (i + 1))))
            case first =>
              cases o with
              | some kk =>
                have hkk := HOL.out kk rfl
                have hd1 : decide ((kk : Int) < 0) = false := by rw [decide_eq_false_iff_not]; omega
                unfold idxZ
                go_wp2_with fail
                go_meet
                exact ⟨gs, kk, vs0, m0, D0, rfl, hkk, by omega, by rw [getD_in hkk]; exact HGM2.out _ (List.getElem_mem hkk), by rw [HNX2.out, HO.out], HV0.out.ext HX3.out, map_ext HM0.out HX3.out, HMZ.out, HX0.out.trans HX3.out, HBLK.out, hsz2, HBX3.out⟩
              | none =>
                unfold idxZ
                go_wp2_with (at_builtin; refine Classical.byContradiction (fun hN => ?_))
                refine hN ?_
                clear hN
                have e1 : Ext w3 (w3.alloc (.cells #[.slice none 0 0] 177)) := Ext.alloc _ _
                have hvv := (HV0.out.ext HX3.out).ext e1
                have hown := hvv.1
                have hvl := hvv.2.1
                have hsz3 : w1.heap.size ≤ w3.heap.size := (HX0.out.trans HX3.out).size
                refine wpList_append_one rfl _ _ _ rfl w1.heap.size 177 j0 (.slice none 0 0) 24 Tryz.underlying175 hJ hJ0 hJ1 hJ2 rfl _ _ _ rfl hown _ (.slice none 0 0) rfl rfl (cell_new1 _ _ _) (by rw [hvl]; unfold maxLen; omega) (by rw [hvl]; omega) (by simp; omega) ?_
                intro v6 w6 ho6 hg6 _
                have HG6 := Lib.hid (hvv.nil ho6 hg6)
                have hx6 : Below w1.heap.size w1 w6 := ((HX0.out.trans HX3.out).trans e1).grown hg6 (by simp; omega) (fun q hq => (hown.lt q hq).1)
                have HX6 := Lib.hid hx6
                have HM6 : Hid (MapAt w6 w1.heap.size m0 D0) := (map_ext (map_ext HM0.out HX3.out) e1).kept hg6 (fun e => own_not_map hown (map_ext (map_ext HM0.out HX3.out) e1) e.symm)
                have HB6 : Hid (BoxAt w6 wr.heap.size #[encN y] 3) := (HBX3.out.ext e1).grown hg6 (fun e => hown.not_box (HBX3.out.ext e1) (by decide) e.symm)
                clear ho6 hg6 hown hvv e1 hx6 hvl
                go_wp2_with fail
                go_meet
                exact ⟨gs ++ [[]], gs.length, vs0 ++ [.slice none 0 0], m0, D0, rfl, by simp, by simp; omega, by simp, by rw [HNX2.out, HO.out]; simp, HG6.out, HM6.out, HMZ.out, HX6.out, fun j hj q hq => by
                  by_cases hj2 : j < vs0.length
                  · rw [List.getElem_append_left hj2] at hq; exact HBLK.out j hj2 q hq
                  · have hj3 : j = vs0.length := by rw [List.length_append, List.length_singleton] at hj; omega
                    subst hj3
                    rw [List.getElem_append_right (Nat.le_refl _)] at hq
                    simp [Value.ownBlock] at hq, hsz2, HB6.out⟩
            case rest =>
              obtain ⟨gs', kk, vs1, m1, D1, rfl, hkk, hgl', hgk, hgs', hV1, hM1, hm1, hx1, hblk, hgb, hbx⟩ := hcut
              have HBK := Lib.hid hblk
              rw [getD_in hkk] at hgk
              have hkv : kk < vs1.length := by rw [hV1.2.1]; exact hkk
              obtain ⟨g9, c9, hs9, hg9, hl9⟩ := hV1.1.form (by omega)
              rw [hV1.2.1] at hs9
              subst hs9
              have HV1 := Lib.hid hV1
              have HM1 := Lib.hid hM1
              have HBX1 := Lib.hid hbx
              have HX1 := Lib.hid hx1
              have HGS := Lib.hid hgs'
              have hsz4 := hx1.size
              have hgl4 := hbx.lt
              have hcy4 := hbx.cell 0 (v := encN y) rfl
              clear hblk hV1 hM1 hbx hx1 hgs' HX3 HBX3 HV0 HM0 HO HOL
              go_wp2_with (at_mapUpdate; refine Classical.byContradiction (fun hN => ?_))
              refine hN ?_
              clear hN
              refine wpList_mapUpdate_own _ rfl _ _ _ 227 rfl 3 3 keyed_int Tryz.underlying227 (plainElem Tryz.prog 3) _ m1 D1 rfl HM1.out (by unfold maxLen; omega) _ _ _ rfl rfl (key_place (by omega)) _ [] (plainElem_int Tryz.underlying3 (by simp [Lit.wf, IntKind.min, IntKind.max, IntKind.signed, IntKind.bits]; omega)) ?_
              intro w5 hM5 hg5
              have HX5 : Hid (Ext w1 w5) := Below.grown HX1.out hg5 HX1.out.size (fun q hq => by cases hq; exact Nat.le_refl _)
              have HV5 := Lib.hid (HV1.out.map HM1.out hg5)
              have HB5 : Hid (BoxAt w5 wr.heap.size #[encN y] 3) := HBX1.out.grown hg5 (fun e => by
                injection e with e
                obtain ⟨es, clock, hmb, _⟩ := HM1.out
                have := HBX1.out
                rw [e] at this
                rw [show wc.heap[w1.heap.size]? = _ from this] at hmb
                cases hmb)
              have HM1Z := Lib.hid HM1.out.isMap
              have HLK := Lib.hid (look_put (by omega) (by omega) HM1.out.isMap hM5)
              have HM5 := Lib.hid hM5
              have hcy5 := HB5.out.cell 0 (v := encN y) rfl
              have hgl5 := HB5.out.lt
              have hlr5 : OwnG encN 3 w5 w1.heap.size vs1[kk] gs'[kk] := HV5.out.2.2.1 kk hkv hkk
              have hc9 := HV5.out.1.at HV5.out.2.1.symm hkv
              have hl95 : g9 < w5.heap.size := (OwnG.lt HV5.out.1 g9 (by simp [Value.ownBlock])).2
              have HLR5 := Lib.hid hlr5
              have HPUT := Lib.hid (fun w6 w7 v2 => HV5.out.put (w1 := w6) (w2 := w7) (v2 := v2) (x := y) hkv hkk rfl)
              have HBK2 := Lib.hid (HBK.out kk hkv)
              have HGK : Hid (gOf ls top (cs.take (i + 1)) = gs'.set kk (gs'[kk] ++ [y])) := by show _ = _; rw [HGS.out, getD_in hkk]
              generalize gs'[kk] = rl at *
              generalize hrv : vs1[kk] = rv at *
              have HRV := Lib.hid hrv
              clear hrv HBK
              have hkI : (kk : Int) < (gs'.length : Int) := by omega
              have hk0 : (0 : Int) ≤ (kk : Int) := by omega
              have hsz5 := HX5.out.size
              clear hM5 hg5 hlr5 hcy4 hcy HGS HV1 HM1
              go_wp2_with fail
              have hc9' : w5.cell? ⟨g9, kk, none⟩ = some rv := hc9
              refine wp_region_fix (fun w' => w'.cell? ⟨wr.heap.size, 0, none⟩ = some (encN y) ∧ w'.cell? ⟨g9, kk, none⟩ = some rv ∧ (Instr.lookup 227 (.map (some w1.heap.size)) (encN y) false).run Tryz.prog w' = .ok (encN kk) w') [(0, true), (1, true), (2, true), (3, true), (4, true), (5, true), (6, true), (7, true), (8, true), (9, true), (10, true), (11, false), (12, false), (13, true), (14, false)] (by kernel_rfl) (by kernel_rfl) ?_ ?_
              · exact ⟨hcy5, hc9', HLK.out _ (Ext.drew _)⟩
              iterate 11 ((first
               | refine fix_move rfl rfl (by rfl) (by rfl) ?_
               | (apply fix_take rfl (by rfl)
                  · intro w' hSc
                    go_simp
                    (try simp (disch := omega) only [i64_id, u64_id, ↓IntWalk.iteOmega, Int.tdiv_eq_ediv_of_nonneg, Int.tmod_eq_emod_of_nonneg])
                    try rfl)
               | refine fix_pass rfl (by rfl) ?_); simp only [Act.put, setZa, setZ0, setZ1])
              refine fix_do rfl (by rfl) (fun K hK => ?_)
              go_simp
              refine hK _ _ ⟨?_, ?_, ?_⟩ ?_
              · exact (((Ext.alloc w5 (.cells #[encN y] 3)).trans (Ext.drew _)).cell _ _ hgl5).trans hcy5
              · exact (((Ext.alloc w5 (.cells #[encN y] 3)).trans (Ext.drew _)).cell _ _ hl95).trans hc9'
              · exact HLK.out _ ((Ext.alloc w5 (.cells #[encN y] 3)).trans (Ext.drew _))
              clear hK K
              (try simp only [Act.put, setZa, setZ0, setZ1])
              have hx6 : Ext w5 (w5.alloc (.cells #[encN y] 3)).drew := (Ext.alloc _ _).trans (Ext.drew _)
              have hb6 : BoxAt (w5.alloc (.cells #[encN y] 3)).drew w5.heap.size #[encN y] 3 := (BoxAt.new _ _ _).ext (Ext.drew _)
              generalize (w5.alloc (.cells #[encN y] 3)).drew = w6 at *
              have ho6 := HLR5.out.ext hx6
              have hb6y := HB5.out.ext hx6
              refine fix_do rfl (by rfl) (fun K hK => ?_)
              refine wp_of_list rfl ?_
              refine wpList_append_one rfl _ _ 177 rfl w1.heap.size 3 i0 (.int .i64 0) 8 Tryz.underlying177 hI hI0 hI1 hI2 rfl rv _ _ rfl ho6 _ (encN y) rfl rfl (hb6.cell 0 rfl) (by unfold maxLen; omega) (by omega) (by have := hx6.size; omega) ?_
              intro v7 w7 ho7 hg7 hat7
              obtain ⟨hout, hput⟩ := HPUT.out w6 w7 v7 hx6 ho7 hg7 hat7
              have hx7 : Ext w1 w7 := Below.grown (HX5.out.trans hx6) hg7 (HX5.out.trans hx6).size (fun q hq => (OwnG.lt ho6 q hq).1)
              have HM7 : Hid (MapAt w7 w1.heap.size (m1 + 1) (D1.put (.int .i64 y) (.lit (.int .i64 kk)))) := (map_ext HM5.out hx6).kept hg7 (fun e => own_not_map ho6 (map_ext HM5.out hx6) e.symm)
              have hc97 : w7.cell? ⟨g9, kk, none⟩ = some rv := by rw [← HRV.out]; exact hout.at (show gs'.length = vs1.length from HV5.out.2.1.symm) hkv
              have hng : w1.heap.size ≠ g9 := fun e => own_not_map hout HM7.out (by simp [Value.ownBlock, e])
              have hf97 := hout.frees (show gs'.length = vs1.length from HV5.out.2.1.symm) kk
              have hl97 : g9 < w7.heap.size := (OwnG.lt hout g9 (by simp [Value.ownBlock])).2
              obtain ⟨a7, c7, rfl⟩ : ∃ a c, v7 = .slice a (rl.length + 1) c := by
                have h7 : OwnG encN 3 w7 w1.heap.size v7 (rl ++ [y]) := OwnG.snoc (enc := encN) (x := y) ho7
                obtain ⟨a, c, e⟩ := h7.shape
                exact ⟨a, c, by rw [e, List.length_append, List.length_singleton]⟩
              have HX7 := Lib.hid hx7
              have HP7 := Lib.hid hput
              have hb7y := hb6y.grown hg7 (fun e => by have := HBK2.out _ e.symm; omega)
              clear ho7 hg7 hat7 hput hx7 ho6 hb6 hx6 hout
              refine hK _ _ ⟨hb7y.cell 0 rfl, hc97, look_put (by omega) (by omega) HM1Z.out HM7.out _ (Ext.refl _)⟩ ?_
              clear hK K hb6y hb7y
              (try simp only [Act.put, setZa, setZ0, setZ1])
              ((first
               | refine fix_move rfl rfl (by rfl) (by rfl) ?_
               | (apply fix_take rfl (by rfl)
                  · intro w' hSc
                    go_simp
                    (try simp (disch := omega) only [i64_id, u64_id, ↓IntWalk.iteOmega, Int.tdiv_eq_ediv_of_nonneg, Int.tmod_eq_emod_of_nonneg])
                    try rfl)
               | refine fix_pass rfl (by rfl) ?_); simp only [Act.put, setZa, setZ0, setZ1])
              refine fix_last rfl (by rfl) (by kernel_rfl) (fun K hK => ?_)
              go_simp
              refine hK _ _ ?_
              clear hK K
              (try simp only [Act.put, setZa, setZ0, setZ1])
              go_wp2_with fail
              have hr7 : SidesRel w1 (w7.setCell ⟨g9, kk, none⟩ (.slice a7 (rl.length + 1) c7)) w1.heap.size (i + 1) (.slice (some ⟨g9, 0, none⟩) gs'.length (c9 + 1)) (gs'.set kk (rl ++ [y])) :=
                ⟨_, m1 + 1, _, HP7.out, HM7.out.setCell hng _, by omega, Ext.setOwn HX7.out hg9, Nat.le_refl _⟩
              go_roundw
              case rel => exact ⟨i + 1, by omega, by go_num, by rw [HGK.out]; exact hr7⟩
              case measure => simp [intOf]; omega
          · have hne : ((genN ls y : Int) != (top : Int)) = true := by rw [bne, Bool.not_eq_true', beq_eq_false_iff_ne]; omega
            have HNX2 : Hid (gOf ls top (cs.take (i + 1)) = gs) := by show _ = _; rw [HNX.out, if_neg (by simpa using hgt)]
            clear hgt
            go_wp2_with fail
            go_roundw
            case rel => exact ⟨i + 1, by omega, by go_num, by rw [HNX2.out]; exact HR.out.ext HEW.out⟩
            case measure => simp [intOf]; omega
        · have hik : i = k := by omega
          subst hik
          have hin3 : ¬ ((i : Int) < (i : Int)) := by omega
          rw [show cs.take i = cs by rw [← HN2.out, List.take_length]] at HR
          obtain ⟨vs0, m0, D0, hV0, _, _, hx0, _⟩ := HR.out
          have HV0 := Lib.hid hV0
          have HX0 := Lib.hid hx0
          clear hV0 hx0
          go_wp2_with fail
          refine bodyPost_ret ?_ rfl ⟨_, rfl, HV0.out.rows, HE1.out.trans HX0.out⟩
          simp only [results, Tryz.results81]
          go_simp
end Go.Proofs.YtjabgpejmnpamaaGreatDoor

namespace Go.Proofs.YtjabgpejmnpamaaGreatDoor
open Go.RowKit
theorem filter_next {α : Type} {l : List α} {f : α → Bool} {i : Nat} (h : i < l.length) : (l.take (i + 1)).filter f = if f l[i] then (l.take i).filter f ++ [l[i]] else (l.take i).filter f := by
  rw [List.take_succ_eq_append_getElem h, List.filter_append]
  cases hf : f l[i] <;> simp [hf]
def AmongAt (w0 w : World) (v : Value) (gs : List (List Nat)) : Prop := ∃ vs, OwnG id 177 w w0.heap.size v vs ∧ vs.length = gs.length ∧ ∀ i (h1 : i < vs.length) (h2 : i < gs.length), SliceAt encN w0 vs[i] gs[i]
theorem AmongAt.rows {w0 w : World} {v : Value} {gs : List (List Nat)} (h : AmongAt w0 w v gs) (e : Ext w0 w) : elRowsAt w v gs := by
  obtain ⟨vs, h1, h2, h3⟩ := h
  exact ⟨vs, h1.slice, h2, fun i a b => (h3 i a b).ext e⟩
def bestF (disk : Nat → Nat) (b : List Nat) (t : List (List Nat)) : List Nat := t.foldl (fun b s => if El.betterG disk s b then s else b) b
theorem bestF_next {disk : Nat → Nat} {b : List Nat} {t : List (List Nat)} {j : Nat} (h : j < t.length) : bestF disk b (t.take (j + 1)) = if El.betterG disk t[j] (bestF disk b (t.take j)) then t[j] else bestF disk b (t.take j) := by
  unfold bestF
  rw [List.take_succ_eq_append_getElem h, List.foldl_append]; rfl
theorem pick_bestF {disk : Nat → Nat} {l : List (List Nat)} (h : 0 < l.length) : El.pickG disk l = bestF disk l[0] (l.drop 1) := by
  cases l with
  | nil => simp at h
  | cons b t => rfl
def GroupsOk (ls : List LD) (gs : List (List Nat)) : Prop := ∀ g, g ∈ gs → 0 < g.length ∧ g.length ≤ 1000 ∧ Places ls g
theorem bestF_mem {disk : Nat → Nat} {b : List Nat} {gs : List (List Nat)} (hb : b ∈ gs) : ∀ {t : List (List Nat)}, (∀ s, s ∈ t → s ∈ gs) → bestF disk b t ∈ gs := by
  intro t ht
  induction t generalizing b with
  | nil => exact hb
  | cons s t ih =>
    show bestF disk (if El.betterG disk s b then s else b) t ∈ gs
    refine ih ?_ fun x hx => ht x (by simp [hx])
    split
    · exact ht s (by simp)
    · exact hb
theorem among_sub {disk : Nat → Nat} {dead : Nat → List Bool} {gs : List (List Nat)} : ∀ s, s ∈ El.amongG disk dead gs → s ∈ gs := fun s hs => by
  unfold El.amongG at hs
  split at hs
  · exact hs
  · exact (List.mem_filter.1 hs).1
theorem among_pos {disk : Nat → Nat} {dead : Nat → List Bool} {gs : List (List Nat)} (h : 0 < gs.length) : 0 < (El.amongG disk dead gs).length := by
  unfold El.amongG
  split
  · exact h
  · rename_i hne; exact List.length_pos_iff.2 hne
def TailRel (w : World) (v : Value) (n : Nat) (l : List Value) : Prop := ∃ A C, v = .slice A n C ∧ SliceAt id w (.slice A n C) l
set_option maxRecDepth 100000 in
set_option maxHeartbeats 4000000 in
theorem choose_any (vl vc : Value) (ls : List LD) (cs : List Nat) (w : World) (hn : ls.length ≤ 1000) (hcs : cs.length ≤ 1000) (hpc : Places ls cs) (hdl : ∀ i, (ldN ls i).2.length ≤ 100000) (hne : 0 < (gOf ls (maxG ls cs) cs).length)
    (h : LabsAt w vl ls) (hc : SliceAt encN w vc cs) :
    Calls Tryz.prog 38 #[vl, vc] w (NatEnd w (El.chooseF (diskN ls) (deadL ls) (gOf ls (maxG ls cs) cs))) := by
  obtain ⟨j0, hJ, hJ0, hJ1, hJ2⟩ := info_parts elinfoS
  obtain ⟨al, cl, rfl⟩ := h.shape
  obtain ⟨ad, cap, rfl⟩ := hc.shape
  have HL := Lib.hid h
  have hsd := sides_any _ _ ls cs w hn hcs (fun i hi => (hpc i hi).1) hdl h hc
  have hok := gOf_ok ls (maxG ls cs) cs cs.length (Nat.le_refl _)
  rw [List.take_length] at hok
  have HOK : Hid (GroupsOk ls (gOf ls (maxG ls cs) cs)) := fun g hg => ⟨(hok.2 g hg).1, by have := (hok.2 g hg).2.1; omega, fun j hj => hpc j ((hok.2 g hg).2.2 j hj)⟩
  have hgl : (gOf ls (maxG ls cs) cs).length ≤ 1000 := by omega
  clear hok hpc h
  generalize gOf ls (maxG ls cs) cs = gs at *
  have HSD := Lib.hid hsd
  clear hsd hc
  obtain ⟨c, hcc⟩ : ∃ c, cs.length = c := ⟨_, rfl⟩
  rw [hcc] at HSD ⊢
  clear hcc hcs
  go_enter Tryz.func38, Tryz.ntmps38
  go_wp2_with fail
  go_at_call 81
  refine HSD.out.mono ?_
  rintro e w2 ⟨va, rfl, hra, hx2⟩
  obtain ⟨aa, ca, rfl⟩ := hra.shape
  have HX2 := Lib.hid hx2
  have HRA := Lib.hid hra
  obtain ⟨m, hm⟩ : ∃ m, gs.length = m := ⟨_, rfl⟩
  have HM := Lib.hid hm
  rw [hm] at HRA hgl hne ⊢
  clear hra hx2 hm
  go_wp2_with fail
  go_loopw [6, 17] (fun vt it wr => ∃ i : Nat, i ≤ m ∧ it = .int .i64 i ∧ Hid (AmongAt w2 wr vt ((gs.take i).filter (El.outG (diskN ls) (deadL ls) gs))) ∧ Hid (Ext w2 wr)) (fun _ it _ => m - (intOf it).toNat)
  case atStart => exact ⟨0, Nat.zero_le _, rfl, Lib.hid ⟨[], OwnG.nil, rfl, fun i h => absurd h (by simp)⟩, Lib.hid (Ext.refl _)⟩
  case round =>
    obtain ⟨i, hi, rfl, HA, HX⟩ := hrel
    by_cases hlt : i < m
    · have hin : (i : Int) < (m : Int) := by omega
      have hil : i < gs.length := by rw [HM.out]; exact hlt
      obtain ⟨ba, oa, rfl, hba, rv, hcr0, hro⟩ := HRA.out.get i hil
      have hcr := (HX.out.cell _ _ hba).trans hcr0
      have hbw := Nat.lt_of_lt_of_le hba HX.out.size
      clear hcr0
      obtain ⟨hq0, hq1, hq2⟩ := HOK.out _ (List.getElem_mem hil)
      have HC := Lib.hid (outlives_any _ _ _ ls gs gs[i] wr hn (by rw [HM.out]; exact hgl) HOK.out hq0 hq2 hdl (HL.out.ext (HX2.out.trans HX.out)) (HRA.out.ext HX.out) (hro.ext HX.out))
      have HFN := Lib.hid (filter_next (f := El.outG (diskN ls) (deadL ls) gs) hil)
      have hlen : ((gs.take i).filter (El.outG (diskN ls) (deadL ls) gs)).length ≤ 1000 := Nat.le_trans (List.length_filter_le _ _) (by rw [List.length_take]; omega)
      obtain ⟨vs, ho, hvl, hvr⟩ := HA.out
      obtain ⟨at_, ct, rfl⟩ := ho.shape
      obtain ⟨ar, cr, rfl⟩ := hro.shape
      have HRO := Lib.hid hro
      have HO := Lib.hid ho
      have HVR := Lib.hid hvr
      generalize gs[i] = s at *
      obtain ⟨z, hz⟩ : ∃ z, s.length = z := ⟨_, rfl⟩
      have HZ := Lib.hid hz
      rw [hz] at HC HRO hcr
      generalize El.outG (diskN ls) (deadL ls) gs s = u at *
      generalize (gs.take i).filter (El.outG (diskN ls) (deadL ls) gs) = L at *
      have hvl2 : vs.length ≤ 1000 := by omega
      obtain ⟨q, hq⟩ : ∃ q, vs.length = q := ⟨_, rfl⟩
      have HQ := Lib.hid hq
      have HVL := Lib.hid hvl
      rw [hq] at hvl2 HO HA ⊢
      clear hq0 hq1 hq2 hro ho hvl hvr hlen hq hz
      go_wp2_with fail
      go_at_call 82
      refine HC.out.mono ?_
      rintro e w3 ⟨rfl, hb3⟩
      have HB3 := Lib.hid hb3
      clear hb3
      cases u with
      | true =>
        go_wp2_with (at_builtin; refine Classical.byContradiction (fun hN => ?_))
        refine hN ?_
        clear hN
        have e1 : Ext w3 (w3.alloc (.cells #[.slice ar z cr] 177)) := Ext.alloc _ _
        have hown := (HO.out.ext HB3.out).ext e1
        have hsz := (HX.out.trans HB3.out).size
        refine wpList_append_one rfl _ _ _ rfl w2.heap.size 177 j0 (.slice none 0 0) 24 Tryz.underlying175 hJ hJ0 hJ1 hJ2 rfl _ _ _ rfl hown _ (.slice ar z cr) rfl rfl (cell_new1 _ _ _) (by rw [HQ.out]; unfold maxLen; omega) (by rw [HQ.out]; omega) (by simp; omega) ?_
        intro v6 w6 ho6 hg6 _
        have HX6 : Hid (Ext w2 w6) := ((HX.out.trans HB3.out).trans e1).grown hg6 (by simp; omega) (fun q hq => (hown.lt q hq).1)
        have HA6 : Hid (AmongAt w2 w6 v6 (L ++ [s])) := by
          refine ⟨vs ++ [.slice ar z cr], OwnG.snoc (enc := id) (x := .slice ar z cr) ho6, by rw [List.length_append, List.length_append, HVL.out]; rfl, fun j a b => ?_⟩
          by_cases hj : j < vs.length
          · have hj2 : j < L.length := by rw [← HVL.out]; exact hj
            rw [List.getElem_append_left hj, List.getElem_append_left hj2]
            exact HVR.out j hj hj2
          · have hj3 : j = vs.length := by rw [List.length_append, List.length_singleton] at a; omega
            subst hj3
            rw [List.getElem_append_right (Nat.le_refl _), List.getElem_append_right (by rw [HVL.out]; exact Nat.le_refl _)]
            simp only [HVL.out, Nat.sub_self, List.getElem_singleton]
            exact HRO.out
        clear ho6 hg6 hown e1
        go_wp2
        go_roundw
        case rel => exact ⟨i + 1, by omega, by go_num, by rw [HFN.out]; exact HA6, HX6⟩
        case measure => simp [intOf]; omega
      | false =>
        go_wp2_with fail
        go_roundw
        case rel => exact ⟨i + 1, by omega, by go_num, by rw [HFN.out]; exact ⟨vs, HO.out.ext HB3.out, HVL.out, HVR.out⟩, HX.out.trans HB3.out⟩
        case measure => simp [intOf]; omega
    · have him : i = m := by omega
      subst him
      have hin2 : ¬ ((i : Int) < (i : Int)) := by omega
      rw [show gs.take i = gs by rw [← HM.out, List.take_length]] at HA
      have HR := Lib.hid (HA.out.rows HX.out)
      have HAM : Hid (El.amongG (diskN ls) (deadL ls) gs = if gs.filter (El.outG (diskN ls) (deadL ls) gs) = [] then gs else gs.filter (El.outG (diskN ls) (deadL ls) gs)) := rfl
      have HCF : Hid (El.chooseF (diskN ls) (deadL ls) gs = (El.pickG (diskN ls) (El.amongG (diskN ls) (deadL ls) gs)).headD 0) := rfl
      have HSUB := Lib.hid (among_sub (disk := diskN ls) (dead := deadL ls) (gs := gs))
      have hpos := among_pos (disk := diskN ls) (dead := deadL ls) (show 0 < gs.length by rw [HM.out]; exact hne)
      have hGl : (El.amongG (diskN ls) (deadL ls) gs).length ≤ 1000 := by
        unfold El.amongG
        split
        · rw [HM.out]; exact hgl
        · exact Nat.le_trans (List.length_filter_le _ _) (by rw [HM.out]; exact hgl)
      obtain ⟨af, cf, rfl⟩ := HR.out.shape
      obtain ⟨q, hq⟩ : ∃ q, (gs.filter (El.outG (diskN ls) (deadL ls) gs)).length = q := ⟨_, rfl⟩
      have hq0 : q = 0 → gs.filter (El.outG (diskN ls) (deadL ls) gs) = [] := fun e => List.eq_nil_of_length_eq_zero (by rw [hq, e])
      have hq1 : q ≠ 0 → ¬ gs.filter (El.outG (diskN ls) (deadL ls) gs) = [] := fun e h => e (by rw [← hq, h]; rfl)
      have HQ0 := Lib.hid hq0
      have HQ1 := Lib.hid hq1
      rw [hq] at HR ⊢
      generalize gs.filter (El.outG (diskN ls) (deadL ls) gs) = F at *
      generalize El.amongG (diskN ls) (deadL ls) gs = G at *
      have HHX := Lib.hid (HX2.out.trans HX.out)
      clear HA hq hq0 hq1
      go_upto_if 32 with fail
      go_cut [6] (fun s6 wx => Hid (elRowsAt wx s6 G) ∧ wx = wr)
      case first =>
        by_cases hz : q = 0
        · have hd : ((q : Int) == 0) = true := by rw [hz]; rfl
          have HG : Hid (G = gs) := by show _ = _; rw [HAM.out, if_pos (HQ0.out hz)]
          clear hz
          go_wp2_with fail
          go_meet
          exact ⟨by rw [HG.out]; exact HRA.out.ext HX.out, rfl⟩
        · have hd : ((q : Int) == 0) = false := by rw [beq_eq_false_iff_ne]; omega
          have HG : Hid (G = F) := by show _ = _; rw [HAM.out, if_neg (HQ1.out hz)]
          clear hz
          go_wp2_with fail
          go_meet
          exact ⟨by rw [HG.out]; exact HR.out, rfl⟩
      case rest =>
        obtain ⟨HRG, rfl⟩ := hcut
        obtain ⟨ag, cg, rfl⟩ := HRG.out.shape
        obtain ⟨p1, hp⟩ : ∃ p1, G.length = p1 + 1 := ⟨G.length - 1, by omega⟩
        have HGP := Lib.hid hp
        have HPB := Lib.hid (pick_bestF (disk := diskN ls) hpos)
        have hg0 := HSUB.out _ (List.getElem_mem hpos)
        obtain ⟨bg, og, rfl, hbg, bv0, hbc, hbs⟩ := HRG.out.get 0 hpos
        rw [Nat.add_zero] at hbc
        obtain ⟨vsg, hs1, hs2, hs3⟩ := HRG.out
        have hs1' := hs1
        rw [hp] at hs1' hs2
        obtain ⟨A, hA, HC⟩ := hs1'.cutA 1 (p1 + 1) (by omega) (by rw [hs2]; exact Nat.le_refl _)
        rw [Nat.add_sub_cancel] at HC
        have HC := Lib.hid HC
        have HS3 : Hid (∀ j (h1 : j + 1 < vsg.length) (h2 : j + 1 < G.length), SliceAt encN wc vsg[j + 1] G[j + 1]) := fun j a b => hs3 (j + 1) a b
        have HGT : Hid (∀ j (h1 : j + 1 < G.length) (h2 : j < (G.drop 1).length), (G.drop 1)[j] = G[j + 1]) := fun j a b => by rw [List.getElem_drop]; congr 1; omega
        have HVS : Hid (vsg.length = p1 + 1) := hs2
        have hpl : p1 ≤ 1000 := by omega
        rw [hp]
        have hp0 : (0 : Int) < ((p1 + 1 : Nat) : Int) := by omega
        obtain ⟨ab, cb, rfl⟩ := hbs.shape
        have hG0 := HOK.out _ hg0
        have HG0 := Lib.hid hg0
        have HBS := Lib.hid hbs
        generalize G[0] = b0 at *
        obtain ⟨z0, hz0⟩ : ∃ z0, b0.length = z0 := ⟨_, rfl⟩
        rw [hz0] at HBS hbc
        clear hs1 hs2 hs3 hs1' hp hbs hg0
        have HHA := Lib.hid hA
        have HDL : Hid ((G.drop 1).length = p1) := by show _ = _; rw [List.length_drop, HGP.out]; omega
        have HB1 : Hid (∀ t : List (List Nat), (∀ s, s ∈ t → s ∈ gs) → bestF (diskN ls) b0 t ∈ gs) := fun t ht => bestF_mem HG0.out ht
        clear hA
        go_upto_region 12 with fail
        go_cut [38, 39, 40] (fun s38 s39 s40 wx => TailRel wx s38 p1 ((vsg.drop 1).take p1) ∧ s39 = .int .i64 p1 ∧ s40 = .int .i64 0 ∧ wx = wc)
        case first =>
          by_cases hc1 : cg = 1
          · have hh := HHA.out
            rw [if_pos hc1] at hh
            subst hh
            subst hc1
            go_wp2_with fail
            go_meet
            exact ⟨⟨_, _, rfl, HC.out⟩, rfl, rfl, rfl⟩
          · have hh := HHA.out
            rw [if_neg hc1] at hh
            subst hh
            go_wp2_with fail
            go_meet
            exact ⟨⟨_, _, rfl, HC.out⟩, rfl, rfl, rfl⟩
        case rest =>
          obtain ⟨⟨A2, C2, rfl, hT⟩, rfl, rfl, rfl⟩ := hcut
          have HT := Lib.hid hT
          clear hT
          go_wp2_with fail
          go_loopw [9, 40] (fun bt it wr => ∃ j : Nat, j ≤ p1 ∧ it = .int .i64 j ∧ Hid (SliceAt encN wr bt (bestF (diskN ls) b0 ((G.drop 1).take j))) ∧ Hid (Ext wc wr)) (fun _ it _ => p1 - (intOf it).toNat)
          case atStart => exact ⟨0, Nat.zero_le _, rfl, by rw [hz0] at *; exact HBS, Lib.hid (Ext.refl _)⟩
          case round =>
            obtain ⟨j, hj, rfl, HBV, HX3⟩ := hrel
            by_cases hlt2 : j < p1
            · have hin3 : (j : Int) < (p1 : Int) := by omega
              have hjl : j < (G.drop 1).length := by rw [HDL.out]; exact hlt2
              have hjg : j + 1 < G.length := by rw [HGP.out]; omega
              have hjv : j + 1 < vsg.length := by rw [HVS.out]; omega
              have hjt : j < ((vsg.drop 1).take p1).length := by rw [List.length_take, List.length_drop, HVS.out]; omega
              have hev : ((vsg.drop 1).take p1)[j] = vsg[j + 1] := by rw [List.getElem_take, List.getElem_drop]; congr 1; omega
              have HN := Lib.hid (bestF_next (disk := diskN ls) (b := b0) hjl)
              have hbm := HB1.out ((G.drop 1).take j) fun s hs => HSUB.out s (List.mem_of_mem_drop (List.mem_of_mem_take hs))
              have hsm := HSUB.out _ (List.getElem_mem hjg)
              rw [HGT.out j hjg hjl] at HN
              have hss := HS3.out j hjv hjg
              obtain ⟨bt, ot, rfl, hbt, hct⟩ := (HT.out.ext HX3.out).get j hjt
              rw [hev] at hct
              have hct2 : wr.cell? ⟨bt, ot + j, none⟩ = some vsg[j + 1] := hct
              have hnx : bestF (diskN ls) b0 ((G.drop 1).take (j + 1)) = bestF (diskN ls) b0 ((G.drop 1).take (j + 1)) := rfl
              generalize vsg[j + 1] = sv at *
              generalize G[j + 1] = S at *
              generalize bestF (diskN ls) b0 ((G.drop 1).take j) = Bb at *
              obtain ⟨hb0, hb1, hb2⟩ := HOK.out _ hbm
              obtain ⟨hs0, hs1, hs2⟩ := HOK.out _ hsm
              obtain ⟨asv, csv, rfl⟩ := hss.shape
              obtain ⟨abv, cbv, rfl⟩ := HBV.out.shape
              have HLS := Lib.hid (fun (w' : World) (e : Ext wc w') => lowest_any _ _ ls S w' hn hs1 hs0 hs2 (HL.out.ext (HHX.out.trans e)) (hss.ext e))
              have HLB := Lib.hid (fun (w' : World) (e : Ext wr w') => lowest_any _ _ ls Bb w' hn hb1 hb0 hb2 (HL.out.ext ((HHX.out.trans HX3.out).trans e)) (HBV.out.ext e))
              have HBT : Hid (El.betterG (diskN ls) S Bb = (decide (Bb.length < S.length) || (S.length == Bb.length && decide (El.lowG (diskN ls) S < El.lowG (diskN ls) Bb)))) := rfl
              have HSS := Lib.hid hss
              generalize El.lowG (diskN ls) S = lS at *
              generalize El.lowG (diskN ls) Bb = lB at *
              generalize El.betterG (diskN ls) S Bb = bet at *
              obtain ⟨ns, hns⟩ : ∃ x, S.length = x := ⟨_, rfl⟩
              obtain ⟨nb, hnb⟩ : ∃ x, Bb.length = x := ⟨_, rfl⟩
              rw [hns] at HBT HLS HSS hct2 hs0 hs1
              rw [hnb] at HBT HLB HBV hb0 hb1 ⊢
              clear hbm hsm hss hct hev hns hnb hnx hjl hjg hjv hjt hs2 hb2
              rcases Nat.lt_trichotomy nb ns with hc | hc | hc
              · have d1 : decide ((nb : Int) < (ns : Int)) = true := by rw [decide_eq_true_iff]; omega
                have d2 : decide (nb < ns) = true := by rw [decide_eq_true_iff]; exact hc
                have HBE : Hid (bet = true) := by show _ = _; rw [HBT.out, d2]; rfl
                clear hc
                go_wp2_with fail
                go_roundw
                case rel => exact ⟨j + 1, by omega, by go_num, by rw [HN.out, HBE.out, if_pos rfl]; exact HSS.out.ext HX3.out, HX3⟩
                case measure => simp [intOf]; omega
              · subst hc
                have d1 : decide ((nb : Int) < (nb : Int)) = false := by rw [decide_eq_false_iff_not]; omega
                have d2 : decide (nb < nb) = false := by rw [decide_eq_false_iff_not]; omega
                have d3 : ((nb : Int) == (nb : Int)) = true := by simp
                have HBE : Hid (bet = decide (lS < lB)) := by show _ = _; rw [HBT.out]; simp
                clear HBT
                go_wp2_with fail
                go_at_call 83
                refine (HLS.out _ HX3.out).mono ?_
                rintro e w4 ⟨rfl, hb4⟩
                have HB4 := Lib.hid hb4
                clear hb4
                go_wp2_with fail
                go_at_call 83
                refine (HLB.out _ HB4.out).mono ?_
                rintro e w5 ⟨rfl, hb5⟩
                have HB5 := Lib.hid (HB4.out.trans hb5)
                clear hb5
                by_cases hll : lS < lB
                · have d4 : decide ((lS : Int) < (lB : Int)) = true := by rw [decide_eq_true_iff]; omega
                  have d5 : decide (lS < lB) = true := by rw [decide_eq_true_iff]; exact hll
                  rw [d5] at HBE
                  clear hll
                  go_wp2_with fail
                  go_roundw
                  case rel => exact ⟨j + 1, by omega, by go_num, by rw [HN.out, HBE.out, if_pos rfl]; exact (HSS.out.ext HX3.out).ext HB5.out, HX3.out.trans HB5.out⟩
                  case measure => simp [intOf]; omega
                · have d4 : decide ((lS : Int) < (lB : Int)) = false := by rw [decide_eq_false_iff_not]; omega
                  have d5 : decide (lS < lB) = false := by rw [decide_eq_false_iff_not]; exact hll
                  rw [d5] at HBE
                  clear hll
                  go_wp2_with fail
                  go_roundw
                  case rel => exact ⟨j + 1, by omega, by go_num, by rw [HN.out, HBE.out, if_neg (by simp)]; exact HBV.out.ext HB5.out, HX3.out.trans HB5.out⟩
                  case measure => simp [intOf]; omega
              · have d1 : decide ((nb : Int) < (ns : Int)) = false := by rw [decide_eq_false_iff_not]; omega
                have d2 : decide (nb < ns) = false := by rw [decide_eq_false_iff_not]; omega
                have d3 : ((ns : Int) == (nb : Int)) = false := by rw [beq_eq_false_iff_ne]; omega
                have HBE : Hid (bet = false) := by show _ = _; rw [HBT.out, d2]; simp; omega
                clear hc
                go_wp2_with fail
                go_roundw
                case rel => exact ⟨j + 1, by omega, by go_num, by rw [HN.out, HBE.out, if_neg (by simp)]; exact HBV, HX3⟩
                case measure => simp [intOf]; omega
            · have hjp : j = p1 := by omega
              subst hjp
              have hin3 : ¬ ((j : Int) < (j : Int)) := by omega
              rw [show (G.drop 1).take j = G.drop 1 by rw [← HDL.out, List.take_length], ← HPB.out] at HBV
              have hbm : El.pickG (diskN ls) G ∈ gs := by rw [HPB.out]; exact HB1.out _ fun s hs => HSUB.out s (List.mem_of_mem_drop hs)
              obtain ⟨hb0, _, _⟩ := HOK.out _ hbm
              have HRES : Hid (El.chooseF (diskN ls) (deadL ls) gs = (El.pickG (diskN ls) G)[0]) := HCF.out.trans (head_get hb0)
              obtain ⟨abv, cbv, rfl⟩ := HBV.out.shape
              obtain ⟨bb, ob, rfl, hbb, hcb⟩ := HBV.out.get 0 hb0
              rw [Nat.add_zero] at hcb
              generalize (El.pickG (diskN ls) G)[0] = res at *
              obtain ⟨nb, hnb⟩ : ∃ x, (El.pickG (diskN ls) G).length = x := ⟨_, rfl⟩
              rw [hnb] at HBV hb0 ⊢
              have hbi : (0 : Int) < (nb : Int) := by omega
              clear hnb hbm
              go_wp2_with fail
              go_ret
              exact ⟨by rw [HRES.out]; rfl, HHX.out.trans HX3.out⟩
end Go.Proofs.YtjabgpejmnpamaaGreatDoor

namespace Go.Proofs.YtjabgpejmnpamaaGreatDoor
open Go.RowKit
set_option maxRecDepth 100000 in
set_option maxHeartbeats 1000000 in
theorem cloneB_any (v : Value) (l : List Bool) (w : World) (hl : l.length ≤ 100000) (h : SliceAt Value.bool w v l) :
    Calls Tryz.prog 39 #[v] w fun e w' => ∃ v', e = .returned v' ∧ OwnG Value.bool 4 w' w.heap.size v' l ∧ Below w.heap.size w w' := by
  obtain ⟨i0, hi, hz0, hz1, hz2⟩ := info_parts infoBo
  have HA := Lib.hid h
  obtain ⟨ad, cap, rfl, hca, h⟩ := h
  cases ad with
  | none =>
    have hl0 : l = [] ∧ cap = 0 := by
      rcases h with ⟨h1, h2⟩ | ⟨_, _, h1, _⟩
      · exact ⟨h1, h2 rfl⟩
      · cases h1
    obtain ⟨rfl, rfl⟩ := hl0
    clear h
    go_enter Tryz.func39, Tryz.ntmps39
    have hq := fun (w : World) => Lib.run_eql_slice_nil (P := Tryz.prog) w 27 4 none 0 0 0 0 Tryz.underlying27
    go_wp2
    go_ret
    exact ⟨_, rfl, OwnG.nil, Below.refl _ _⟩
  | some ad =>
    clear h
    have hq := fun (w : World) => Lib.run_eql_slice_nil (P := Tryz.prog) w 27 4 (some ad) l.length cap 0 0 Tryz.underlying27
    go_enter Tryz.func39, Tryz.ntmps39
    go_wp2_with (at_builtin; refine Classical.byContradiction (fun hN => ?_))
    refine hN ?_
    clear hN
    have hlit : OwnG Value.bool 4 (w.alloc (.cells #[] 4)) w.heap.size (.slice (some ⟨w.heap.size, 0, none⟩) 0 0) [] := OwnG.lit (enc := Value.bool) w [] 4 w.heap.size (Nat.le_refl _) (Nat.zero_le _) #[] rfl
    have hxa : Ext w (w.alloc (.cells #[] 4)) := Ext.alloc _ _
    refine wpList_append_slice (enc := Value.bool) (fun _ => rfl) rfl _ _ 27 rfl w.heap.size 4 i0 (.bool false) 1 Tryz.underlying27 hi hz0 hz1 hz2 rfl _ _ _ rfl hlit _ l rfl (HA.out.ext hxa) (by unfold maxLen; simp only [List.length_nil]; omega) (by simp only [List.length_nil]; omega) hxa.size ?_
    intro v2 w2 ho2 hg2
    have hx2 : Ext w w2 := hxa.grown hg2 hxa.size (fun q hq => (hlit.lt q hq).1)
    have ho3 := OwnG.app (l := []) ho2
    rw [List.nil_append] at ho3
    have HO := Lib.hid ho3
    have HX := Lib.hid hx2
    clear hlit hxa hg2 ho2 ho3 hx2
    go_wp2
    go_ret
    exact ⟨_, rfl, HO.out, HX.out⟩
def cntN (l : List Int) : Nat := (l.filter fun z => decide (z < 0)).length
theorem cntN_le (l : List Int) : cntN l ≤ l.length := List.length_filter_le _ _
theorem cntN_next {l : List Int} {i : Nat} (h : i < l.length) : cntN (l.take (i + 1)) = cntN (l.take i) + if l[i] < 0 then 1 else 0 := by
  unfold cntN
  rw [List.take_succ_eq_append_getElem h, List.filter_append, List.length_append]
  by_cases hz : l[i] < 0 <;> simp [hz]
set_option maxRecDepth 100000 in
set_option maxHeartbeats 1000000 in
theorem elcount_any (v : Value) (l : List Int) (w : World) (hl : l.length ≤ 100000) (h : SliceAt encI w v l) :
    Calls Tryz.prog 11 #[v] w fun e w' => e = .returned (.int .i64 (cntN l : Nat)) ∧ w = w' := by
  obtain ⟨ad, cap, rfl⟩ := h.shape
  have HS := Lib.hid h
  have HLE := Lib.hid (fun i => cntN_le (l.take i))
  obtain ⟨n, hn⟩ : ∃ n, l.length = n := ⟨_, rfl⟩
  have HN := Lib.hid hn
  rw [hn] at HS hl ⊢
  clear h hn
  go_enter Tryz.func11, Tryz.ntmps11
  go_wp2_with fail
  go_loop [3, 8] (fun ct it => ∃ i : Nat, i ≤ n ∧ it = .int .i64 i ∧ ct = .int .i64 (cntN (l.take i) : Nat)) (fun _ it => n - (intOf it).toNat)
  case atStart => exact ⟨0, Nat.zero_le _, rfl, rfl⟩
  case round =>
    obtain ⟨i, hi, rfl, rfl⟩ := hrel
    by_cases hlt : i < n
    · have hin : (i : Int) < (n : Int) := by omega
      have hil : i < l.length := by rw [HN.out]; exact hlt
      obtain ⟨b, off, rfl, hb, hc⟩ := HS.out.get i hil
      have HCN := Lib.hid (cntN_next hil)
      have hle : cntN (l.take i) ≤ 100000 := Nat.le_trans (HLE.out i) (by rw [List.length_take]; omega)
      generalize l[i] = y at *
      generalize cntN (l.take i) = C at *
      by_cases hy : y < 0
      · have d1 : decide (y < 0) = true := by rw [decide_eq_true_iff]; exact hy
        rw [if_pos hy] at HCN
        go_wp2_with fail
        go_round
        case rel => exact ⟨i + 1, by omega, by go_num, by rw [HCN.out]; go_num⟩
        case measure => simp [intOf]; omega
      · have d1 : decide (y < 0) = false := by rw [decide_eq_false_iff_not]; exact hy
        rw [if_neg hy] at HCN
        go_wp2_with fail
        go_round
        case rel => exact ⟨i + 1, by omega, by go_num, by rw [HCN.out]; rfl⟩
        case measure => simp [intOf]; omega
    · have hin : i = n := by omega
      subst hin
      have hin2 : ¬ ((i : Int) < (i : Int)) := by omega
      go_wp2_with fail
      go_ret
      exact ⟨by rw [show l.take i = l by rw [← HN.out, List.take_length]]; rfl, rfl⟩
end Go.Proofs.YtjabgpejmnpamaaGreatDoor

namespace Go.Proofs.YtjabgpejmnpamaaGreatDoor.El
def firstN (p : Nat → Bool) (k : Nat) : Option Nat := (List.range k).find? p
theorem firstN_succ (p : Nat → Bool) (k : Nat) : firstN p (k + 1) = match firstN p k with | some i => some i | none => if p k then some k else none := by
  unfold firstN
  rw [List.range_succ, List.find?_append]
  cases (List.range k).find? p with
  | some i => rfl
  | none => simp [List.find?_cons]; cases p k <;> rfl
theorem firstN_some {p : Nat → Bool} {k i : Nat} (h : firstN p k = some i) : i < k ∧ p i = true := by
  have h1 := List.mem_of_find?_eq_some h
  exact ⟨List.mem_range.1 h1, List.find?_some h⟩
theorem firstN_none {p : Nat → Bool} {k : Nat} (h : firstN p k = none) : ∀ i, i < k → p i = false := fun i hi => by
  have := List.find?_eq_none.1 h i (List.mem_range.2 hi)
  simpa using this
def place (c o : Nat → Bool) (k : Nat) : Int := match firstN c k with
  | some i => i
  | none => match firstN o k with
    | some i => i
    | none => -1
section
variable (cand : Nat → Bool) (gen disk : Nat → Nat) (c o : Nat → Bool)
def stepA (at_ : List Int) (i : Nat) : List Int :=
  if c i || o i then (if at_.getD (disk i) (-1) < 0 ∨ gen (at_.getD (disk i) (-1)).toNat < gen i then at_.set (disk i) i else at_) else at_
def Inv (D k : Nat) (at_ : List Int) : Prop := at_.length = D ∧ ∀ d, d < D → at_.getD d (-1) = place (fun i => cand i && (disk i == d && c i)) (fun i => cand i && (disk i == d && o i)) k
end
theorem place_skip {c o : Nat → Bool} {k : Nat} (hc : c k = false) (ho : o k = false) : place c o (k + 1) = place c o k := by
  unfold place
  rw [firstN_succ, firstN_succ, hc, ho]
  cases firstN c k <;> cases firstN o k <;> rfl
theorem elgetD_set {α : Type} {l : List α} {i j : Nat} {x d : α} (h : i < l.length) : (l.set i x).getD j d = if i = j then x else l.getD j d := by
  rw [List.getD_eq_getElem?_getD, List.getD_eq_getElem?_getD]
  by_cases e : i = j
  · subst e
    rw [if_pos rfl, List.getElem?_set_self h]; rfl
  · rw [if_neg e, List.getElem?_set_ne e]
section
variable {cand : Nat → Bool} {gen disk : Nat → Nat} {c o : Nat → Bool} {D k G P : Nat} {at_ : List Int}
theorem Inv.skip (h : Inv cand disk c o D k at_) (hc : cand k = false) : Inv cand disk c o D (k + 1) at_ :=
  ⟨h.1, fun d hd => by rw [place_skip (by simp [hc]) (by simp [hc])]; exact h.2 d hd⟩
theorem Inv.step (h : Inv cand disk c o D k at_) (hcand : cand k = true) (hg : ∀ i, c i = true → gen i = G) (hp : ∀ i, o i = true → gen i = P) (hPG : P < G) (hD : (c k || o k) = true → disk k < D) : Inv cand disk c o D (k + 1) (stepA gen disk c o at_ k) := by
  unfold stepA
  by_cases hco : (c k || o k) = true
  · rw [if_pos hco]
    have hd := hD hco
    have hv := h.2 (disk k) hd
    have hother : ∀ d, disk k ≠ d → place (fun i => cand i && (disk i == d && c i)) (fun i => cand i && (disk i == d && o i)) (k + 1) = place (fun i => cand i && (disk i == d && c i)) (fun i => cand i && (disk i == d && o i)) k := fun d e =>
      place_skip (by simp [e]) (by simp [e])
    -- the value at this disk behind this label
    have key : place (fun i => cand i && (disk i == disk k && c i)) (fun i => cand i && (disk i == disk k && o i)) (k + 1) =
        if at_.getD (disk k) (-1) < 0 ∨ gen (at_.getD (disk k) (-1)).toNat < gen k then (k : Int) else at_.getD (disk k) (-1) := by
      rw [hv]
      unfold place
      rw [firstN_succ, firstN_succ]
      simp only [hcand, Bool.true_and, beq_self_eq_true]
      cases hfc : firstN (fun i => cand i && (disk i == disk k && c i)) k with
      | some i =>
        have hi := (firstN_some hfc).2
        simp only [Bool.and_eq_true] at hi
        have hgi := hg i hi.2.2
        have hgk : gen k ≤ G := by
          rw [Bool.or_eq_true] at hco
          rcases hco with e | e
          · rw [hg k e]; exact Nat.le_refl _
          · rw [hp k e]; omega
        simp only
        rw [if_neg]
        rw [Int.toNat_natCast]
        omega
      | none =>
        cases hfo : firstN (fun i => cand i && (disk i == disk k && o i)) k with
        | some i =>
          have hi := (firstN_some hfo).2
          simp only [Bool.and_eq_true] at hi
          have hgi := hp i hi.2.2
          simp only
          by_cases hck : c k = true
          · rw [if_pos hck, if_pos]
            right
            rw [Int.toNat_natCast, hgi, hg k hck]
            exact hPG
          · rw [if_neg hck, if_neg]
            have hok : o k = true := by simpa [hck] using hco
            rw [Int.toNat_natCast, hgi, hp k hok]
            omega
        | none =>
          simp only
          rw [if_pos (Or.inl (show (-1 : Int) < 0 by decide))]
          by_cases hck : c k = true
          · rw [if_pos hck]
          · rw [if_neg hck, if_pos (show o k = true by simpa [hck] using hco)]
    by_cases hs : at_.getD (disk k) (-1) < 0 ∨ gen (at_.getD (disk k) (-1)).toNat < gen k
    · rw [if_pos hs]
      refine ⟨by rw [List.length_set]; exact h.1, fun d hdD => ?_⟩
      rw [elgetD_set (by rw [h.1]; exact hd)]
      by_cases e : disk k = d
      · subst e
        rw [if_pos rfl, key, if_pos hs]
      · rw [if_neg e, hother d e]
        exact h.2 d hdD
    · rw [if_neg hs]
      refine ⟨h.1, fun d hdD => ?_⟩
      by_cases e : disk k = d
      · subst e
        rw [key, if_neg hs]
      · rw [hother d e]
        exact h.2 d hdD
  · rw [if_neg hco]
    have h1 : c k = false ∧ o k = false := by
      rw [Bool.or_eq_true] at hco
      constructor
      · cases hc : c k with
        | false => rfl
        | true => exact absurd (Or.inl hc) hco
      · cases ho : o k with
        | false => rfl
        | true => exact absurd (Or.inr ho) hco
    exact ⟨h.1, fun d hd => by rw [place_skip (by simp [h1]) (by simp [h1])]; exact h.2 d hd⟩
theorem Inv.all (hg : ∀ i, c i = true → gen i = G) (hp : ∀ i, o i = true → gen i = P) (hPG : P < G) : ∀ k, (∀ i, i < k → cand i = true → (c i || o i) = true → disk i < D) → Inv cand disk c o D k (((List.range k).filter cand).foldl (stepA gen disk c o) (List.replicate D (-1)))
  | 0, _ => by
    refine ⟨by simp, fun d hd => ?_⟩
    show (List.replicate D (-1 : Int)).getD d (-1) = place _ _ 0
    rw [List.getD_eq_getElem?_getD, List.getElem?_replicate, if_pos hd]; rfl
  | k + 1, hD => by
    have ih := Inv.all hg hp hPG k fun i hi => hD i (by omega)
    rw [List.range_succ, List.filter_append, List.foldl_append]
    by_cases hc : cand k = true
    · rw [show [k].filter cand = [k] by simp [hc]]
      exact ih.step hc hg hp hPG (hD k (by omega) hc)
    · rw [show [k].filter cand = [] by simp [hc]]
      exact ih.skip (by simpa using hc)
end
theorem Inv.eq {cand : Nat → Bool} {disk : Nat → Nat} {c o : Nat → Bool} {D k : Nat} {at_ : List Int} (h : Inv cand disk c o D k at_) :
    at_ = (List.range D).map fun d => place (fun i => cand i && (disk i == d && c i)) (fun i => cand i && (disk i == d && o i)) k := by
  apply List.ext_getElem
  · rw [List.length_map, List.length_range]; exact h.1
  · intro i h1 h2
    have := h.2 i (by rw [← h.1]; exact h1)
    rw [List.getD_eq_getElem?_getD, List.getElem?_eq_getElem h1] at this
    rw [List.getElem_map, List.getElem_range]
    exact this
end Go.Proofs.YtjabgpejmnpamaaGreatDoor.El

namespace Go.Proofs.YtjabgpejmnpamaaGreatDoor
open Go.RowKit
def candN (ls : List LD) (rd : List Bool) (i : Nat) : Bool := rd.getD i false && validL (ldN ls i).1 (ldN ls i).2
def keyE (ls : List LD) (rd : List Bool) : Nat → Nat := El.keyN ls.length (candN ls rd) (genN ls) (eqN ls) (diskN ls) (deadL ls)
def bestE (ls : List LD) (rd : List Bool) : Option Nat := El.bestTo (candN ls rd) (keyE ls rd) ls.length
def kinN (ls : List LD) (m i : Nat) : Bool := (un (ldN ls i).1.array == un (ldN ls m).1.array) && eqCfg (ldN ls i).1.c (ldN ls m).1.c
def curN (ls : List LD) (m i : Nat) : Bool := !(deadL ls m).getD (diskN ls i) false && eqN ls i m
def oldN (ls : List LD) (m i : Nat) : Bool := !(deadL ls m).getD (diskN ls i) false && (kinN ls m i && (genN ls i == (ldN ls m).1.prev.toNat))
def disksN (ls : List LD) (m : Nat) : Nat := (ldN ls m).1.c.d.toNat
def atE (ls : List LD) (rd : List Bool) (m : Nat) : List Int := (List.range (disksN ls m)).map fun d => El.place (fun i => candN ls rd i && (diskN ls i == d && curN ls m i)) (fun i => candN ls rd i && (diskN ls i == d && oldN ls m i)) ls.length
def errE (ls : List LD) (rd : List Bool) : Nat := if ls.length ≠ rd.length then 1 else match bestE ls rd with
  | none => 9
  | some m => if 3 < cntN (atE ls rd m) then 12 else 0
def labE (ls : List LD) (rd : List Bool) : LD := match bestE ls rd with
  | none => ld0
  | some m => if errE ls rd = 0 then ldN ls m else ld0
def placesE (ls : List LD) (rd : List Bool) : List Int := match bestE ls rd with
  | none => []
  | some m => if errE ls rd = 0 then atE ls rd m else []
theorem errE_none {ls : List LD} {rd : List Bool} (h : ls.length = rd.length) (hb : bestE ls rd = none) : errE ls rd = 9 := by
  unfold errE; rw [if_neg (by simpa using h), hb]
theorem errE_some {ls : List LD} {rd : List Bool} {m : Nat} (h : ls.length = rd.length) (hb : bestE ls rd = some m) : errE ls rd = if 3 < cntN (atE ls rd m) then 12 else 0 := by
  unfold errE; rw [if_neg (by simpa using h), hb]
theorem bad_lab {ls : List LD} {rd : List Bool} (h : errE ls rd ≠ 0) : labE ls rd = ld0 ∧ placesE ls rd = [] := by
  unfold labE placesE
  constructor <;> split <;> first | rfl | rw [if_neg h]
theorem good_lab {ls : List LD} {rd : List Bool} {m : Nat} (h : errE ls rd = 0) (hb : bestE ls rd = some m) : labE ls rd = ldN ls m ∧ placesE ls rd = atE ls rd m := by
  unfold labE placesE
  rw [hb]
  exact ⟨if_pos h, if_pos h⟩
theorem valid_facts {l : Lab} {x : List Bool} (h : validL l x = true) : 0 ≤ l.disk ∧ l.disk < l.c.d ∧ 4 ≤ l.c.d ∧ l.c.d ≤ 60 ∧ 1 ≤ l.gen.toNat ∧ l.prev.toNat < l.gen.toNat ∧ (x.length : Int) = l.c.d ∧ x.getD l.disk.toNat true = false ∧ deadN x x.length ≤ 3 ∧ l.gen.toNat ≤ 4294967295 := by
  unfold validL cfgB cfgHead labHead at h
  simp only [Bool.and_eq_true, decide_eq_true_eq] at h
  obtain ⟨⟨⟨⟨h1, _⟩, _⟩, h2⟩, h3⟩ := h
  have e1 : un l.gen = (l.gen.toNat : Int) := rfl
  have e2 : un l.prev = (l.prev.toNat : Int) := rfl
  rw [e1, e2] at h2
  refine ⟨h2.1, h2.2.1, h1.1, h1.2.1, ?_, ?_, h3.1, h3.2.2.1, h3.2.1, ?_⟩ <;> omega
theorem cand_valid {ls : List LD} {rd : List Bool} {i : Nat} (h : candN ls rd i = true) : validL (ldN ls i).1 (ldN ls i).2 = true := by
  unfold candN at h; rw [Bool.and_eq_true] at h; exact h.2
theorem cand_disk {ls : List LD} {rd : List Bool} {i : Nat} (h : candN ls rd i = true) : 0 ≤ (ldN ls i).1.disk ∧ diskN ls i < 60 := by
  have := valid_facts (cand_valid h)
  exact ⟨this.1, by unfold diskN; omega⟩
theorem eqN_iff {ls : List LD} {i j : Nat} : eqN ls i j = true ↔ { (ldN ls i).1 with disk := (ldN ls j).1.disk } = (ldN ls j).1 ∧ (ldN ls i).2 = (ldN ls j).2 := eqL_iff
theorem eqN_refl (ls : List LD) (i : Nat) : eqN ls i i = true := eqN_iff.2 ⟨rfl, rfl⟩
theorem eqN_symm {ls : List LD} {i j : Nat} (h : eqN ls i j = true) : eqN ls j i = true := by
  obtain ⟨h1, h2⟩ := eqN_iff.1 h
  exact eqN_iff.2 ⟨by rw [← h1], h2.symm⟩
theorem eqN_trans {ls : List LD} {i j k : Nat} (h : eqN ls i j = true) (g : eqN ls j k = true) : eqN ls i k = true := by
  obtain ⟨h1, h2⟩ := eqN_iff.1 h
  obtain ⟨g1, g2⟩ := eqN_iff.1 g
  exact eqN_iff.2 ⟨by rw [← g1, ← h1], h2.trans g2⟩
theorem eqN_gen {ls : List LD} {i j : Nat} (h : eqN ls i j = true) : genN ls i = genN ls j := by
  have := congrArg Lab.gen (eqN_iff.1 h).1
  unfold genN; exact congrArg BitVec.toNat this
theorem eqN_dead {ls : List LD} {i j : Nat} (h : eqN ls i j = true) : deadL ls i = deadL ls j := (eqN_iff.1 h).2
theorem eqN_kin {ls : List LD} {i m : Nat} (h : eqN ls i m = true) : kinN ls m i = true := by
  unfold eqN eqL at h
  simp only [Bool.and_eq_true] at h
  unfold kinN
  rw [h.1, h.2.2.2.1]; rfl
theorem labels_ok (ls : List LD) (rd : List Bool) (hn : ls.length < 1000) : El.Labels ls.length (candN ls rd) (genN ls) (eqN ls) (diskN ls) (deadL ls) :=
  ⟨eqN_refl ls, fun _ _ => eqN_symm, fun _ _ _ => eqN_trans, fun _ _ => eqN_gen, fun _ _ => eqN_dead, fun _ _ h => (cand_disk h).2, hn⟩
def candL (ls : List LD) (rd : List Bool) : List Nat := (List.range ls.length).filter (candN ls rd)
theorem maxG_foldl (ls : List LD) : ∀ (l : List Nat) (a : Nat), a ≤ (l.map (genN ls)).foldl max a ∧ (∀ i, i ∈ l → genN ls i ≤ (l.map (genN ls)).foldl max a)
  | [], a => ⟨Nat.le_refl _, by simp⟩
  | x :: l, a => by
    obtain ⟨h1, h2⟩ := maxG_foldl ls l (max a (genN ls x))
    refine ⟨by simp only [List.map_cons, List.foldl_cons]; omega, fun i hi => ?_⟩
    simp only [List.map_cons, List.foldl_cons]
    rcases List.mem_cons.1 hi with rfl | hi
    · omega
    · exact h2 i hi
theorem maxG_mem (ls : List LD) : ∀ (l : List Nat) (a : Nat), (l.map (genN ls)).foldl max a = a ∨ ∃ i, i ∈ l ∧ genN ls i = (l.map (genN ls)).foldl max a
  | [], a => .inl rfl
  | x :: l, a => by
    simp only [List.map_cons, List.foldl_cons]
    rcases maxG_mem ls l (max a (genN ls x)) with h | ⟨i, hi, h⟩
    · rw [h]
      rcases Nat.le_total a (genN ls x) with h' | h'
      · right; exact ⟨x, by simp, by omega⟩
      · left; omega
    · right; exact ⟨i, by simp [hi], h⟩
theorem choose_best {ls : List LD} {rd : List Bool} (hn : ls.length < 1000) (hne : candL ls rd ≠ []) :
    0 < (gOf ls (maxG ls (candL ls rd)) (candL ls rd)).length ∧ bestE ls rd = some (El.chooseF (diskN ls) (deadL ls) (gOf ls (maxG ls (candL ls rd)) (candL ls rd))) := by
  have L := labels_ok ls rd hn
  have hsort : (candL ls rd).Pairwise (· < ·) := List.pairwise_lt_range.filter _
  have hmem : ∀ i, i ∈ candL ls rd ↔ i < ls.length ∧ candN ls rd i = true := fun i => by unfold candL; rw [List.mem_filter, List.mem_range]
  have G := El.groups_of L.r L.s L.t (fun i => genN ls i == maxG ls (candL ls rd)) (candL ls rd) hsort
  have hform : (candL ls rd).filter (fun i => genN ls i == maxG ls (candL ls rd)) = El.newC ls.length (candN ls rd) (genN ls) (maxG ls (candL ls rd)) := rfl
  rw [hform] at G
  have htop : ∀ i, i < ls.length → candN ls rd i = true → genN ls i ≤ maxG ls (candL ls rd) := fun i hi hc => (maxG_foldl ls (candL ls rd) 0).2 i ((hmem i).2 ⟨hi, hc⟩)
  have hg : gOf ls (maxG ls (candL ls rd)) (candL ls rd) ≠ [] := by
    intro e
    rcases maxG_mem ls (candL ls rd) 0 with h | ⟨i, hi, h⟩
    · obtain ⟨x, hx⟩ := List.exists_mem_of_ne_nil _ hne
      have h2 := htop x ((hmem x).1 hx).1 ((hmem x).1 hx).2
      have h3 := (valid_facts (cand_valid ((hmem x).1 hx).2)).2.2.2.2.1
      have h4 : maxG ls (candL ls rd) = 0 := h
      have h5 : genN ls x = (ldN ls x).1.gen.toNat := rfl
      omega
    · obtain ⟨g, hg, _⟩ := G.cover i (El.mem_newC.2 ⟨((hmem i).1 hi).1, ((hmem i).1 hi).2, h⟩)
      rw [show El.groupsOf (eqN ls) (fun i => genN ls i == maxG ls (candL ls rd)) (candL ls rd) = _ from e] at hg
      cases hg
  exact ⟨List.length_pos_iff.2 hg, El.bestTo_iff (El.choose_best L htop G hg)⟩
theorem best_facts {ls : List LD} {rd : List Bool} {m : Nat} (h : bestE ls rd = some m) : m < ls.length ∧ candN ls rd m = true := by
  have := El.bestTo_some h
  exact ⟨this.lt, this.ok⟩
theorem best_nil {ls : List LD} {rd : List Bool} (h : candL ls rd = []) : bestE ls rd = none := by
  cases hb : bestE ls rd with
  | none => rfl
  | some m =>
    obtain ⟨h1, h2⟩ := best_facts hb
    have : m ∈ candL ls rd := by unfold candL; rw [List.mem_filter, List.mem_range]; exact ⟨h1, h2⟩
    rw [h] at this; cases this
theorem cand_places {ls : List LD} {rd : List Bool} : Places ls (candL ls rd) := fun i hi => by
  unfold candL at hi
  rw [List.mem_filter, List.mem_range] at hi
  exact ⟨hi.1, (cand_disk hi.2).1⟩
theorem places_fold {ls : List LD} {rd : List Bool} {m : Nat} (h : bestE ls rd = some m) :
    (candL ls rd).foldl (El.stepA (genN ls) (diskN ls) (curN ls m) (oldN ls m)) (List.replicate (disksN ls m) (-1)) = atE ls rd m := by
  obtain ⟨hm, hc⟩ := best_facts h
  have hv := valid_facts (cand_valid hc)
  have hI := El.Inv.all (cand := candN ls rd) (gen := genN ls) (disk := diskN ls) (c := curN ls m) (o := oldN ls m) (D := disksN ls m) (G := genN ls m) (P := (ldN ls m).1.prev.toNat)
    (fun i hi => by unfold curN at hi; rw [Bool.and_eq_true] at hi; exact eqN_gen hi.2)
    (fun i hi => by unfold oldN at hi; simp only [Bool.and_eq_true, beq_iff_eq] at hi; exact hi.2.2)
    hv.2.2.2.2.2.1 ls.length (fun i hi hci hco => by
      have hk : kinN ls m i = true := by
        rw [Bool.or_eq_true] at hco
        rcases hco with e | e
        · unfold curN at e; rw [Bool.and_eq_true] at e; exact eqN_kin e.2
        · unfold oldN at e; simp only [Bool.and_eq_true] at e; exact e.2.1
      unfold kinN at hk
      rw [Bool.and_eq_true, eqCfg_iff] at hk
      have hvi := valid_facts (cand_valid hci)
      unfold diskN disksN
      rw [← hk.2]
      omega)
  exact hI.eq
end Go.Proofs.YtjabgpejmnpamaaGreatDoor
