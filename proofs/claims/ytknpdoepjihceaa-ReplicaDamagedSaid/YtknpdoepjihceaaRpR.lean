/-
  Chapter 29 (replica): the walk of ReplicaChunks.
-/
import Derived.Test.YtknpdoepjihceaaRpQ
namespace Go.Proofs.Ytknpdoepjihceaa
open Go.ChangeShapes Go.WideShapes Go.ChangeAt Go.RowKit
set_option linter.unusedVariables false
attribute [local go_sem] eq_strB

/-- a byte is written: an own row of bytes is an own row of bytes still -/
theorem own_touch {w : World} {base q k n c : Nat} {v : Value} {l lq : List (BitVec 8)} (x : BitVec 8) (h : OwnG encB 5 w base v l) (hq : OwnG encB 5 w base (.slice (some ⟨q, 0, none⟩) n c) lq) (hn : n = lq.length) (hk : k < lq.length) :
    ∃ l', l'.length = l.length ∧ OwnG encB 5 (w.setCell ⟨q, k, none⟩ (encB x)) base v l' := by
  by_cases hb : v.ownBlock = some q
  · rcases h.2 with ⟨h1, _⟩ | ⟨g, cap, cur, h1, _⟩
    · rw [h1] at hb; simp [Value.ownBlock] at hb
    · have hg : g = q := by rw [h1] at hb; simpa [Value.ownBlock] using hb
      subst hg
      rw [h1] at h ⊢
      exact ⟨l.set k x, by simp, OwnG.put h rfl k x⟩
  · exact ⟨l, rfl, OwnG.off h hb k (encB x)⟩
/-- the same in an own row of own rows -/
theorem OwnL.touch {w : World} {base k : Nat} {v : Value} {ls : List (List (BitVec 8))} (x : BitVec 8) (h : OwnL w base v ls) {q n c : Nat} {lq : List (BitVec 8)} (hq : OwnG encB 5 w base (.slice (some ⟨q, 0, none⟩) n c) lq) (hn : n = lq.length) (hk : k < lq.length) :
    ∃ ls', ls'.map List.length = ls.map List.length ∧ OwnL (w.setCell ⟨q, k, none⟩ (encB x)) base v ls' := by
  obtain ⟨vs, h1, h2, h3⟩ := h
  have hall : ∀ i (h1 : i < vs.length) (h2 : i < ls.length), ∃ l', l'.length = ls[i].length ∧ OwnG encB 5 (w.setCell ⟨q, k, none⟩ (encB x)) base vs[i] l' := fun i a b => own_touch x (h3 i a b) hq hn hk
  refine ⟨(List.range ls.length).map (fun i => if h : i < ls.length then (hall i (by omega) h).choose else []), ?_, vs, ?_, ?_, ?_⟩
  · apply List.ext_getElem (by simp)
    intro j a b
    simp only [List.length_map] at b
    simp only [List.getElem_map, List.getElem_range, dif_pos b]
    exact (hall j (by omega) b).choose_spec.1
  · have hqb : (Value.slice (some ⟨q, 0, none⟩) n c).ownBlock = some q ∨ (Value.slice (some ⟨q, 0, none⟩) n c).ownBlock = none := by cases c <;> simp [Value.ownBlock]
    refine OwnG.off h1 ?_ k (encB x)
    obtain ⟨g, cg, e1, _, _⟩ := hq.form (by omega)
    injection e1 with e1 e2 e3
    subst e3
    intro hv
    exact rows_apart hq h1 (by decide) q rfl hv
  · simp [h2]
  · intro j a b
    have hj : j < ls.length := by omega
    simp only [List.getElem_map, List.getElem_range, dif_pos hj]
    exact (hall j a hj).choose_spec.2
theorem inc_ub (x : BitVec 8) : IntKind.u8.wrap (ub x + 1) = ub (x + 1#8) := by
  have h := x.isLt
  show ((((x.toNat : Nat) : Int) + 1) % 256 : Int) = (((x + 1#8).toNat : Nat) : Int)
  rw [BitVec.toNat_add]
  simp
def ScrEnd (gen : BitVec 64) (l : List (BitVec 8)) (B : Nat) (v : Value) (w2 wr : World) : Prop :=
  ∃ ls', ls'.map List.length = (chunksL gen l).map List.length ∧ OwnL wr B v ls' ∧ Below B w2 wr
theorem chunksL_len (gen : BitVec 64) (l : List (BitVec 8)) : (chunksL gen l).length = numL l.length := by unfold chunksL; rw [chunksK_len]
theorem chunksL_mem (gen : BitVec 64) (l : List (BitVec 8)) : ∀ c ∈ chunksL gen l, 25 ≤ c.length ∧ c.length ≤ 57 := by
  intro c hc
  unfold chunksL chunksK at hc
  obtain ⟨i, _, rfl⟩ := List.mem_map.1 hc
  rw [sectorL_len]
  have := chunkL_len l i
  omega
theorem chunksL_at (gen : BitVec 64) (l : List (BitVec 8)) (i : Nat) (hi : i < (chunksL gen l).length) : 25 ≤ (chunksL gen l)[i].length ∧ (chunksL gen l)[i].length ≤ 57 := chunksL_mem gen l _ (List.getElem_mem hi)
theorem OwnL.form {w : World} {base : Nat} {v : Value} {ls : List (List (BitVec 8))} (h : OwnL w base v ls) (hl : 0 < ls.length) : ∃ g c, v = .slice (some ⟨g, 0, none⟩) ls.length (c + 1) ∧ base ≤ g ∧ g < w.heap.size := by
  obtain ⟨vs, h1, h2, _⟩ := h
  obtain ⟨g, c, e, h3, h4⟩ := h1.form (by omega)
  exact ⟨g, c, by rw [e, h2], h3, h4⟩
theorem OwnL.elem {w : World} {base g n c : Nat} {ls : List (List (BitVec 8))} (h : OwnL w base (.slice (some ⟨g, 0, none⟩) n c) ls) (hn : n = ls.length) (k : Nat) (hk : k < ls.length) :
    ∃ u, w.cell? ⟨g, k, none⟩ = some u ∧ OwnG encB 5 w base u ls[k] := by
  obtain ⟨vs, h1, h2, h3⟩ := h
  exact ⟨vs[k]'(by omega), h1.at (by omega) (by omega), h3 k (by omega) hk⟩
theorem scr_elem {gen : BitVec 64} {l : List (BitVec 8)} {B g c : Nat} {w2 wr : World} (h : ScrEnd gen l B (.slice (some ⟨g, 0, none⟩) (chunksL gen l).length c) w2 wr) (i : Nat) (hi : i < (chunksL gen l).length) :
    ∃ q cq, wr.cell? ⟨g, i, none⟩ = some (.slice (some ⟨q, 0, none⟩) (chunksL gen l)[i].length (cq + 1)) ∧ ∀ j, j < (chunksL gen l)[i].length → ∃ x : BitVec 8, wr.cell? ⟨q, j, none⟩ = some (.int .u8 (ub x)) ∧ wr.frozen? ⟨q, j, none⟩ = false ∧ ScrEnd gen l B (.slice (some ⟨g, 0, none⟩) (chunksL gen l).length c) w2 (wr.setCell ⟨q, j, none⟩ (.int .u8 (ub (x + 1#8)))) := by
  obtain ⟨ls, h1, h2, h3⟩ := h
  have hn : (chunksL gen l).length = ls.length := by simpa using (congrArg List.length h1).symm
  have hm : (ls[i]'(by omega)).length = (chunksL gen l)[i].length := by
    have : (ls.map List.length)[i]? = ((chunksL gen l).map List.length)[i]? := by rw [h1]
    rw [List.getElem?_map, List.getElem?_map, List.getElem?_eq_getElem (by omega), List.getElem?_eq_getElem hi] at this
    simpa using this
  obtain ⟨u, hc, ho⟩ := h2.elem hn i (by omega)
  obtain ⟨q, cq, rfl, hq1, hq2⟩ := ho.form (by rw [hm]; have := (chunksL_at gen l i hi).1; omega)
  rw [hm] at hc ho
  refine ⟨q, cq, hc, fun j hj => ⟨(ls[i]'(by omega))[j]'(by rw [hm]; exact hj), ho.at hm.symm (by rw [hm]; exact hj), ho.frees hm.symm j, ?_⟩⟩
  obtain ⟨ls', k1, k2⟩ := h2.touch ((ls[i]'(by omega))[j]'(by rw [hm]; exact hj) + 1#8) ho hm.symm (by rw [hm]; exact hj)
  exact ⟨ls', k1.trans h1, k2, bel_set h3 hq1 _ _⟩

set_option maxRecDepth 100000 in
set_option maxHeartbeats 4000000 in
theorem replicaChunks_walk (vb : Value) (l : List (BitVec 8)) (gen : BitVec 64) (w : World) (hm : l.length ≤ maxLen) (h : SliceAt encB w vb l) :
    Calls Try.prog 3 #[vb, encU gen] w fun e w' => e = .returned (.bool true) ∧ Below w.heap.size w w' := by
  obtain ⟨i0, hi, hi0, hi1, hi2⟩ := info_parts infoB
  obtain ⟨ad, cap, rfl⟩ := h.shape
  have HS := Lib.hid h
  clear h
  unfold maxLen at hm
  go_enter Try.func3, Try.ntmps3
  go_wp2_with fail
  go_at_call 8
  refine (awake_any _).mono ?_
  rintro e w1 ⟨rfl, hb1⟩
  have HX1 : Hid (Ext w w1) := hb1
  clear hb1
  by_cases hl : l.length ≤ 1000
  · have hd : decide ((1000 : Int) < (l.length : Int)) = false := by rw [decide_eq_false_iff_not]; omega
    go_wp2_with (at_builtin; refine Classical.byContradiction (fun hN => ?_))
    refine hN ?_
    clear hN
    have hlit : OwnG encB 5 (w1.alloc (.cells #[] 5)) w.heap.size (.slice (some ⟨w1.heap.size, 0, none⟩) 0 0) [] := OwnG.lit (enc := encB) w1 [] 5 w.heap.size HX1.out.size (Nat.zero_le _) #[] rfl
    have hxa : Ext w (w1.alloc (.cells #[] 5)) := HX1.out.trans (Ext.alloc _ _)
    refine wpList_append_slice (enc := encB) (fun _ => rfl) rfl _ _ 22 rfl w.heap.size 5 i0 (.int .u8 0) 1 Try.underlying22 hi hi0 hi1 hi2 rfl _ _ _ rfl hlit _ l rfl (HS.out.ext hxa) (by unfold maxLen; simp only [List.length_nil]; omega) (by simp only [List.length_nil]; omega) hxa.size ?_
    intro v2 w2 ho2 hg2
    have HX2 : Hid (Ext w w2) := hxa.grown hg2 hxa.size (fun q hq => (hlit.lt q hq).1)
    have HO2 := Lib.hid (OwnG.slice (OwnG.app (l := []) ho2))
    rw [List.nil_append] at HO2
    clear hlit hxa ho2 hg2
    obtain ⟨a2, c2, rfl⟩ := HO2.out.shape
    go_wp2_with fail
    go_at_call 9
    refine (chunks_any gen _ l _ (by omega) HO2.out).mono ?_
    rintro e w3 ⟨v3, rfl, ho3, hb3⟩
    have hn0 : 0 < (chunksL gen l).length := by rw [chunksL_len]; unfold numL; omega
    obtain ⟨g, c3, rfl, hg1, hg2⟩ := ho3.form hn0
    have hn1 : (chunksL gen l).length ≤ 100 := by rw [chunksL_len]; unfold numL; omega
    have HSC : Hid (ScrEnd gen l w2.heap.size (.slice (some ⟨g, 0, none⟩) (chunksL gen l).length (c3 + 1)) w2 w3) := ⟨_, rfl, ho3, hb3⟩
    obtain ⟨n, hn⟩ : ∃ n, (chunksL gen l).length = n := ⟨_, rfl⟩
    have HN := Lib.hid hn
    have HSE : Hid (∀ wr, ScrEnd gen l w2.heap.size (.slice (some ⟨g, 0, none⟩) n (c3 + 1)) w2 wr → ∀ i, i < n → ∃ m, m ≤ 57 ∧ ∀ wr, ScrEnd gen l w2.heap.size (.slice (some ⟨g, 0, none⟩) n (c3 + 1)) w2 wr → ∃ q cq, wr.cell? ⟨g, i, none⟩ = some (.slice (some ⟨q, 0, none⟩) m (cq + 1)) ∧ ∀ j, j < m → ∃ x : BitVec 8, wr.cell? ⟨q, j, none⟩ = some (.int .u8 (ub x)) ∧ wr.frozen? ⟨q, j, none⟩ = false ∧ ScrEnd gen l w2.heap.size (.slice (some ⟨g, 0, none⟩) n (c3 + 1)) w2 (wr.setCell ⟨q, j, none⟩ (.int .u8 (ub (x + 1#8))))) := by
      intro _ _ i hi
      subst hn
      exact ⟨_, (chunksL_at gen l i hi).2, fun wr hwr => scr_elem hwr i hi⟩
    rw [hn] at hn0 hn1 HSC
    rw [hn]
    clear ho3 hb3 hn hg1 hg2
    go_wp2_with fail
    go_loopw [8] (fun x wr => ∃ i : Nat, i ≤ n ∧ x = .int .i64 i ∧ Hid (ScrEnd gen l w2.heap.size (.slice (some ⟨g, 0, none⟩) n (c3 + 1)) w2 wr)) (fun x _ => n - (intOf x).toNat)
    case atStart => exact ⟨0, by omega, rfl, HSC⟩
    case round =>
      obtain ⟨i, hi, rfl, HS3⟩ := hrel
      by_cases hlt : i < n
      · have hin : (i : Int) < (n : Int) := by omega
        obtain ⟨m, hm57, hel⟩ := HSE.out _ HS3.out i hlt
        have HEL := Lib.hid hel
        clear hel
        go_wp2_with fail
        go_loopw [9] (fun x wr => ∃ j : Nat, j ≤ m ∧ x = .int .i64 j ∧ Hid (ScrEnd gen l w2.heap.size (.slice (some ⟨g, 0, none⟩) n (c3 + 1)) w2 wr)) (fun x _ => m - (intOf x).toNat)
        case atStart => exact ⟨0, by omega, rfl, HS3⟩
        case round =>
          obtain ⟨j, hj, rfl, HS4⟩ := hrel
          obtain ⟨q, cq, hcq, hqq⟩ := HEL.out _ HS4.out
          have HQQ := Lib.hid hqq
          clear hqq
          by_cases hjm : j < m
          · have hjn : (j : Int) < (m : Int) := by omega
            obtain ⟨x, hx, hfr, hsc⟩ := HQQ.out j hjm
            have HS5 := Lib.hid hsc
            clear hsc
            have hix := inc_ub x
            go_wp2_with fail
            go_roundw
            case rel => exact ⟨j + 1, by omega, by go_num, HS5⟩
            case measure => show m - (intOf (.int .i64 ((j : Int) + 1))).toNat < m - (intOf (.int .i64 (j : Int))).toNat; unfold intOf; simp only; omega
          · have hjm : j = m := by omega
            subst hjm
            go_wp2_with fail
            go_roundw
            case rel => exact ⟨i + 1, by omega, by go_num, HS4⟩
            case measure => show n - (intOf (.int .i64 ((i : Int) + 1))).toNat < n - (intOf (.int .i64 (i : Int))).toNat; unfold intOf; simp only; omega
      · have hin : i = n := by omega
        subst hin
        obtain ⟨_, _, _, hx2r⟩ := HS3.out
        have HX3 : Hid (Ext w2 wr) := hx2r
        clear hx2r HSE HSC HS3
        go_wp2_with fail
        go_at_call 9
        refine (chunks_any gen _ l _ (by omega) (HO2.out.ext HX3.out)).mono ?_
        rintro e w4 ⟨v4, rfl, ho4, hb4⟩
        have HX4 : Hid (Ext wr w4) := hb4
        have HO4 := Lib.hid (ho4.sliceR (fun c hc => Nat.le_trans (chunksL_mem gen l c hc).2 (by decide)))
        clear ho4 hb4
        go_wp2_with fail
        go_at_call 10
        refine (rchunks_any gen _ l _ (by omega) (HS.out.ext (HX2.out.trans (HX3.out.trans HX4.out)))).mono ?_
        rintro e w5 ⟨v5, rfl, ho5, hb5⟩
        have HX5 : Hid (Ext w4 w5) := hb5
        have HO5 := Lib.hid (ho5.sliceR (fun c hc => Nat.le_trans (chunksL_mem gen l c hc).2 (by decide)))
        clear ho5 hb5
        go_wp2_with fail
        go_at_call 11
        refine (same_any _ _ _ _ _ (SliceR.ext HO4.out HX5.out) HO5.out (by rw [HN.out]; omega) (by rw [HN.out]; omega)).mono ?_
        rintro e w6 ⟨rfl, hb6⟩
        have HX6 : Hid (Ext w w6) := HX2.out.trans (HX3.out.trans (HX4.out.trans (HX5.out.trans hb6)))
        have hsl : SliceAt encB w6 (.slice a2 l.length c2) l := HO2.out.ext (HX3.out.trans (HX4.out.trans (HX5.out.trans hb6)))
        have k1 := run_str (P := Try.prog) Try.underlying22 Try.underlying5 Try.underlying9 w6 _ _ hsl
        have k2 := run_str (P := Try.prog) Try.underlying22 Try.underlying5 Try.underlying9 w6 _ _ (HS.out.ext HX6.out)
        clear hb6 hsl
        have hcc : decide (chunksL gen l = chunksL gen l) = true := decide_eq_true rfl
        have hll : decide (l = l) = true := decide_eq_true rfl
        rw [hcc]
        go_wp2_with fail
        go_ret
        exact ⟨rfl, HX6.out⟩
  · have hd : decide ((1000 : Int) < (l.length : Int)) = true := by rw [decide_eq_true_eq]; omega
    go_wp2_with fail
    go_at_call 8
    refine (awake_any _).mono ?_
    rintro e w3 ⟨rfl, hb3⟩
    have HX3 : Hid (Ext w1 w3) := hb3
    clear hb3
    go_wp2_with fail
    go_ret
    exact ⟨rfl, HX1.out.trans HX3.out⟩
end Go.Proofs.Ytknpdoepjihceaa
