/-
  Chapter 25 (piecesum): what a law's arguments are; the walk of PiecesumSum.
-/
import Derived.Test.YtinnikbjphkkiaaPsP
import Derived.Test.YtinnikbjphkkiaaLawKit
namespace Go.Proofs.Ytinnikbjphkkiaa
open Go.ChangeShapes Go.WideShapes Go.ChangeAt Go.RowKit
set_option linter.unusedVariables false

theorem own : ownKnob Try.prog.godebug = none := by kernel_rfl
theorem laid : laidOutB Try.prog = true := by kernel_rfl
theorem opU8 : Opens Try.prog 5 Pat.u8 := Opens.u8 Try.underlying5 (by kernel_rfl)
theorem opU64 : Opens Try.prog 22 Pat.u64 := Opens.u64 Try.underlying22 (by kernel_rfl)
theorem opI64 : Opens Try.prog 3 Pat.i64 := Opens.i64 Try.underlying3 (by kernel_rfl)
theorem opBool : Opens Try.prog 4 Pat.bool := Opens.bool Try.underlying4 (by kernel_rfl)
theorem opNums : Opens Try.prog 30 (Pat.slice Pat.u64) := Opens.slice opU64 Try.underlying30 (by kernel_rfl) (by kernel_rfl)
theorem opBools : Opens Try.prog 36 (Pat.slice Pat.bool) := Opens.slice opBool Try.underlying36 (by kernel_rfl) (by kernel_rfl)
theorem opBlock : Opens Try.prog 24 (Pat.rep 8 Pat.u8) := Opens.array opU8 Try.underlying24 (by kernel_rfl)
theorem opBlocks : Opens Try.prog 35 (Pat.slice (Pat.rep 8 Pat.u8)) := Opens.slice opBlock Try.underlying35 (by kernel_rfl) (by kernel_rfl)
abbrev patLeaf := Pat.pair (Pat.slice Pat.u64) (Pat.slice Pat.u64)
theorem opLeaf : Opens Try.prog 32 patLeaf :=
  Opens.struct Try.underlying32 (OpensF.cons opNums rfl (OpensF.last opNums rfl)) (by kernel_rfl)
abbrev patPW := Pat.pair Pat.i64 (Pat.pair Pat.i64 (Pat.pair Pat.u64 (Pat.rep 8 Pat.u8)))
theorem opPW : Opens Try.prog 26 patPW :=
  Opens.struct Try.underlying26 (OpensF.cons opI64 rfl (OpensF.cons opI64 rfl (OpensF.cons opU64 rfl (OpensF.last opBlock rfl)))) (by kernel_rfl)
abbrev patPieces := Pat.pair patLeaf (Pat.pair Pat.i64 (Pat.pair (Pat.slice Pat.u64) (Pat.pair (Pat.slice (Pat.rep 8 Pat.u8)) (Pat.slice Pat.bool))))
theorem opPieces : Opens Try.prog 38 patPieces :=
  Opens.struct Try.underlying38 (OpensF.cons opLeaf rfl (OpensF.cons opI64 rfl (OpensF.cons opNums rfl (OpensF.cons opBlocks rfl (OpensF.last opBools rfl))))) (by kernel_rfl)
section
variable {H : Type} {enc : TypeId × Value → H} {w : World} {r : Reach} {b0 : Nat} {v : Value} {d : DataW H} {ps : List MemPlace}
theorem open_int (hval : Value.okWide Try.prog w r b0 3 v) (h : DataW.Trod enc Try.prog w 0 (fun _ => true) true 3 v d ps) : ∃ x, v = .int .i64 x ∧ I64 x := by
  obtain ⟨x, hx⟩ := opI64.cell (by kernel_rfl) hval h
  exact ⟨x, holds_i64 hx⟩
theorem open_u64 (hval : Value.okWide Try.prog w r b0 22 v) (h : DataW.Trod enc Try.prog w 0 (fun _ => true) true 22 v d ps) : ∃ x, v = encU x := by
  obtain ⟨x, hx⟩ := opU64.cell (by kernel_rfl) hval h
  exact ⟨x, holds_u64 hx⟩
theorem open_u8 (hval : Value.okWide Try.prog w r b0 5 v) (h : DataW.Trod enc Try.prog w 0 (fun _ => true) true 5 v d ps) : ∃ x, v = encB x := by
  obtain ⟨x, hx⟩ := opU8.cell (by kernel_rfl) hval h
  exact ⟨x, holds_u8 hx⟩
theorem holds_nums {w : World} {cs : List Value} {l : List (BitVec 64)} (h : (Pat.slice Pat.u64).holds w cs l) : ∃ v, cs = [v] ∧ SliceAt encU w v l ∧ l.length ≤ maxLen := by
  obtain ⟨v, h1, h2, h3⟩ := h
  exact ⟨v, h1, h2.at.1, h3⟩
theorem open_leaf (hval : Value.okWide Try.prog w r b0 32 v) (h : DataW.Trod enc Try.prog w 0 (fun _ => true) true 32 v d ps) :
    ∃ (vv vs : Value) (lv ls : List (BitVec 64)), v = .agg #[vv, vs] ∧ SliceAt encU w vv lv ∧ SliceAt encU w vs ls ∧ lv.length ≤ maxLen ∧ ls.length ≤ maxLen := by
  obtain ⟨cs, x, rfl, hx⟩ := opLeaf.agg (by kernel_rfl) hval h
  obtain ⟨c0, d0, rfl, h0, h1⟩ := hx
  obtain ⟨v0, rfl, h0, hl0⟩ := holds_nums h0
  obtain ⟨v1, rfl, h1, hl1⟩ := holds_nums h1
  exact ⟨v0, v1, _, _, rfl, h0, h1, hl0, hl1⟩
theorem open_PW (hval : Value.okWide Try.prog w r b0 26 v) (h : DataW.Trod enc Try.prog w 0 (fun _ => true) true 26 v d ps) :
    ∃ (g p : Int) (u : BitVec 64) (x0 x1 x2 x3 x4 x5 x6 x7 : BitVec 8), v = .agg #[encI g, encI p, encU u, encB x0, encB x1, encB x2, encB x3, encB x4, encB x5, encB x6, encB x7] ∧ I64 g ∧ I64 p := by
  obtain ⟨cs, x, rfl, hx⟩ := opPW.agg (by kernel_rfl) hval h
  obtain ⟨c0, d0, rfl, h0, c1, d1, rfl, h1, c2, d2, rfl, h2, h3⟩ := hx
  obtain ⟨h3a, h3b, _⟩ := rep_one h3
  obtain ⟨x0, x1, x2, x3, x4, x5, x6, x7, h8⟩ := list_8 h3b
  rw [h8] at h3a
  refine ⟨x.1, x.2.1, x.2.2.1, x0, x1, x2, x3, x4, x5, x6, x7, ?_, h0.2, h1.2⟩
  rw [h0.1, h1.1, h2.1, h3a]; rfl
theorem open_pieces (hval : Value.okWide Try.prog w r b0 38 v) (h : DataW.Trod enc Try.prog w 0 (fun _ => true) true 38 v d ps) :
    ∃ (vv vs vr vd vp : Value) (lv ls vers : List (BitVec 64)) (g : Int) (data : List (List (BitVec 8))) (pres : List Bool), v = .agg #[vv, vs, .int .i64 g, vr, vd, vp] ∧ I64 g ∧ SliceAt encU w vv lv ∧ SliceAt encU w vs ls ∧ SliceAt encU w vr vers ∧
      SliceR patBlk w vd data ∧ SliceAt Value.bool w vp pres := by
  obtain ⟨cs, x, rfl, hx⟩ := opPieces.agg (by kernel_rfl) hval h
  obtain ⟨c0, d0, rfl, ⟨c1, d1, rfl, h1, h2⟩, c3, d3, rfl, h3, c4, d4, rfl, h4, c5, d5, rfl, h5, h6⟩ := hx
  obtain ⟨v1, rfl, h1, hl1⟩ := holds_nums h1
  obtain ⟨v2, rfl, h2, hl2⟩ := holds_nums h2
  obtain ⟨v4, rfl, h4, hl4⟩ := holds_nums h4
  obtain ⟨v5, rfl, h5, hl5⟩ := h5
  obtain ⟨v6, rfl, h6, hl6⟩ := h6
  obtain ⟨h3, h3i⟩ := h3
  subst h3
  exact ⟨v1, v2, v4, v5, v6, _, _, _, _, _, _, rfl, h3i, h1, h2, h4, h5, h6.at.1⟩
end

theorem zn_le (p : Int) : zn p ≤ 100000 := by
  unfold zn; split <;> omega
set_option maxHeartbeats 1000000 in
theorem piecesumSum_walk (gr pc g p : Int) (v : BitVec 64) (x0 x1 x2 x3 x4 x5 x6 x7 : BitVec 8) (w : World) (hgr : I64 gr) (hpc : I64 pc) (hg : I64 g) (hp : I64 p) :
    Calls Try.prog 3 #[.int .i64 gr, .int .i64 pc, .agg #[encI g, encI p, encU v, encB x0, encB x1, encB x2, encB x3, encB x4, encB x5, encB x6, encB x7]] w fun e w' => e = .returned (.bool true) ∧ Below w.heap.size w w' := by
  unfold I64 at hgr hpc
  go_enter Try.func3, Try.ntmps3
  go_wp2_with fail
  have hz : w.heap.size < (w.alloc (.cells #[encI g, encI p, encU v, encB x0, encB x1, encB x2, encB x3, encB x4, encB x5, encB x6, encB x7] 26)).heap.size := by simp
  have hsz : (w.alloc (.cells #[encI g, encI p, encU v, encB x0, encB x1, encB x2, encB x3, encB x4, encB x5, encB x6, encB x7] 26)).heap.size = w.heap.size + 1 := by simp
  generalize hW : w.alloc (.cells #[encI g, encI p, encU v, encB x0, encB x1, encB x2, encB x3, encB x4, encB x5, encB x6, encB x7] 26) = W at *
  have c0_0 : W.cell? ⟨w.heap.size, 0, none⟩ = some (encI g) := by rw [← hW]; first | exact (World.cell?_alloc_at (hn := by first | (simp; done) | (simp; omega)) ..).trans rfl | (simp; done) | (go_simp; done)
  have c0_1 : W.cell? ⟨w.heap.size, 1, none⟩ = some (encI p) := by rw [← hW]; first | exact (World.cell?_alloc_at (hn := by first | (simp; done) | (simp; omega)) ..).trans rfl | (simp; done) | (go_simp; done)
  have c0_2 : W.cell? ⟨w.heap.size, 2, none⟩ = some (encU v) := by rw [← hW]; first | exact (World.cell?_alloc_at (hn := by first | (simp; done) | (simp; omega)) ..).trans rfl | (simp; done) | (go_simp; done)
  have c0_3 : W.cell? ⟨w.heap.size, 3, none⟩ = some (encB x0) := by rw [← hW]; first | exact (World.cell?_alloc_at (hn := by first | (simp; done) | (simp; omega)) ..).trans rfl | (simp; done) | (go_simp; done)
  have c0_4 : W.cell? ⟨w.heap.size, 4, none⟩ = some (encB x1) := by rw [← hW]; first | exact (World.cell?_alloc_at (hn := by first | (simp; done) | (simp; omega)) ..).trans rfl | (simp; done) | (go_simp; done)
  have c0_5 : W.cell? ⟨w.heap.size, 5, none⟩ = some (encB x2) := by rw [← hW]; first | exact (World.cell?_alloc_at (hn := by first | (simp; done) | (simp; omega)) ..).trans rfl | (simp; done) | (go_simp; done)
  have c0_6 : W.cell? ⟨w.heap.size, 6, none⟩ = some (encB x3) := by rw [← hW]; first | exact (World.cell?_alloc_at (hn := by first | (simp; done) | (simp; omega)) ..).trans rfl | (simp; done) | (go_simp; done)
  have c0_7 : W.cell? ⟨w.heap.size, 7, none⟩ = some (encB x4) := by rw [← hW]; first | exact (World.cell?_alloc_at (hn := by first | (simp; done) | (simp; omega)) ..).trans rfl | (simp; done) | (go_simp; done)
  have c0_8 : W.cell? ⟨w.heap.size, 8, none⟩ = some (encB x5) := by rw [← hW]; first | exact (World.cell?_alloc_at (hn := by first | (simp; done) | (simp; omega)) ..).trans rfl | (simp; done) | (go_simp; done)
  have c0_9 : W.cell? ⟨w.heap.size, 9, none⟩ = some (encB x6) := by rw [← hW]; first | exact (World.cell?_alloc_at (hn := by first | (simp; done) | (simp; omega)) ..).trans rfl | (simp; done) | (go_simp; done)
  have c0_10 : W.cell? ⟨w.heap.size, 10, none⟩ = some (encB x7) := by rw [← hW]; first | exact (World.cell?_alloc_at (hn := by first | (simp; done) | (simp; omega)) ..).trans rfl | (simp; done) | (go_simp; done)
  have hf0 : ∀ o, W.frozen? ⟨w.heap.size, o, none⟩ = false := fun o => by rw [← hW]; first | exact World.frozen?_alloc_at (hn := by first | (simp; done) | (simp; omega)) .. | (simp; done) | (go_simp; done)
  have hxW : Ext w W := by rw [← hW]; exact Ext.alloc _ _
  clear hW
  have HSZ := Lib.hid hsz
  clear hsz
  have hxd := Ext.drew W
  refine wp_region_ext [(0, false), (1, true), (2, true), (3, true), (4, true), (5, true), (6, true), (7, true), (9, true), (10, true), (11, true), (12, true), (13, true), (14, true), (8, false), (15, false), (16, true), (17, true), (18, true), (19, true), (20, true), (22, true), (23, true), (21, false), (24, false), (25, false), (26, true), (27, true)] (by kernel_rfl) (by kernel_rfl) ?_
  (refine ext_do rfl (by rfl) (fun K hK => ?_)
   go_simp
   go_at_call 10
   refine (awake_any _).mono ?_
   rintro e w2 ⟨rfl, hb2⟩
   have hx2 : Ext W w2 := hxd.trans hb2
   have hc2 := hx2.cells
   have hs2 := hx2.size
   have hq2 := Below.size hb2
   have hlt2 := Nat.lt_of_lt_of_le hz hs2
   (try have hlu2 := Nat.lt_of_lt_of_le hz0 hs2)
   (try have hlv2 := Nat.lt_of_lt_of_le hz1 hs2)
   skip
   refine hK _ _ (by first | exact hb2 | exact (Ext.drew _).trans hb2) ?_
   clear hK K
   (try simp only [Act.put, List.setIfInBounds_toArray, List.set_cons_zero, List.set_cons_succ]))
  iterate 13 (first
   | (refine ext_move rfl rfl (by rfl) (by rfl) ?_; simp only [Act.put, List.setIfInBounds_toArray, List.set_cons_zero, List.set_cons_succ])
   | (refine ext_assign rfl rfl (by rfl) (by rfl) ?_; simp only [Act.put, List.setIfInBounds_toArray, List.set_cons_zero, List.set_cons_succ])
   | (refine ext_pick_t rfl rfl (by rfl) (by rfl) (by rfl) ?_; simp only [Act.put, List.setIfInBounds_toArray, List.set_cons_zero, List.set_cons_succ])
   | (refine ext_pick_f rfl rfl (by rfl) (by rfl) (by rfl) ?_; simp only [Act.put, List.setIfInBounds_toArray, List.set_cons_zero, List.set_cons_succ])
   | (apply ext_take rfl (by rfl)
      · intro w' hS
        have hSc := hS.cells
        (try simp only [World.size_drew, World.cell?_drew] at hSc)
        go_simp
        (try simp (disch := omega) only [i64_id, u64_id, ↓IntWalk.iteOmega, Int.tdiv_eq_ediv_of_nonneg, Int.tmod_eq_emod_of_nonneg])
        try rfl
      simp only [Act.put, List.setIfInBounds_toArray, List.set_cons_zero, List.set_cons_succ])
   | (refine ext_pass rfl (by rfl) ?_; simp only [Act.put, List.setIfInBounds_toArray, List.set_cons_zero, List.set_cons_succ]))
  (refine ext_do rfl (by rfl) (fun K hK => ?_)
   go_simp
   go_at_call 11
   refine (psum_any gr pc v x0 x1 x2 x3 x4 x5 x6 x7 _ hgr hpc).mono ?_
   rintro e w3 ⟨rfl, hb3⟩
   have hx3 : Ext W w3 := hx2.trans hb3
   have hc3 := hx3.cells
   have hs3 := hx3.size
   have hq3 := Below.size hb3
   have hlt3 := Nat.lt_of_lt_of_le hz hs3
   (try have hlu3 := Nat.lt_of_lt_of_le hz0 hs3)
   (try have hlv3 := Nat.lt_of_lt_of_le hz1 hs3)
   skip
   refine hK _ _ (by first | exact hb3 | exact (Ext.drew _).trans hb3) ?_
   clear hK K
   (try simp only [Act.put, List.setIfInBounds_toArray, List.set_cons_zero, List.set_cons_succ]))
  (refine ext_do rfl (by rfl) (fun K hK => ?_)
   go_simp
   go_at_call 12
   refine (rpsum_any gr pc v x0 x1 x2 x3 x4 x5 x6 x7 _ hgr hpc).mono ?_
   rintro e w4 ⟨rfl, hb4⟩
   have hx4 : Ext W w4 := hx3.trans hb4
   have hc4 := hx4.cells
   have hs4 := hx4.size
   have hq4 := Below.size hb4
   have hlt4 := Nat.lt_of_lt_of_le hz hs4
   (try have hlu4 := Nat.lt_of_lt_of_le hz0 hs4)
   (try have hlv4 := Nat.lt_of_lt_of_le hz1 hs4)
   skip
   refine hK _ _ (by first | exact hb4 | exact (Ext.drew _).trans hb4) ?_
   clear hK K
   (try simp only [Act.put, List.setIfInBounds_toArray, List.set_cons_zero, List.set_cons_succ]))
  iterate 7 (first
   | (refine ext_move rfl rfl (by rfl) (by rfl) ?_; simp only [Act.put, List.setIfInBounds_toArray, List.set_cons_zero, List.set_cons_succ])
   | (refine ext_assign rfl rfl (by rfl) (by rfl) ?_; simp only [Act.put, List.setIfInBounds_toArray, List.set_cons_zero, List.set_cons_succ])
   | (refine ext_pick_t rfl rfl (by rfl) (by rfl) (by rfl) ?_; simp only [Act.put, List.setIfInBounds_toArray, List.set_cons_zero, List.set_cons_succ])
   | (refine ext_pick_f rfl rfl (by rfl) (by rfl) (by rfl) ?_; simp only [Act.put, List.setIfInBounds_toArray, List.set_cons_zero, List.set_cons_succ])
   | (apply ext_take rfl (by rfl)
      · intro w' hS
        have hSc := hS.cells
        (try simp only [World.size_drew, World.cell?_drew] at hSc)
        go_simp
        (try simp (disch := omega) only [i64_id, u64_id, ↓IntWalk.iteOmega, Int.tdiv_eq_ediv_of_nonneg, Int.tmod_eq_emod_of_nonneg])
        try rfl
      simp only [Act.put, List.setIfInBounds_toArray, List.set_cons_zero, List.set_cons_succ])
   | (refine ext_pass rfl (by rfl) ?_; simp only [Act.put, List.setIfInBounds_toArray, List.set_cons_zero, List.set_cons_succ]))
  (refine ext_do rfl (by rfl) (fun K hK => ?_)
   go_simp
   go_at_call 14
   refine (zero_any gr pc _ hgr hpc).mono ?_
   rintro e w5 ⟨v1, v2, rfl, ho1, ho2, hb5⟩
   have hx5 : Ext W w5 := hx4.trans hb5
   have hc5 := hx5.cells
   have hs5 := hx5.size
   have hq5 := Below.size hb5
   have hlt5 := Nat.lt_of_lt_of_le hz hs5
   (try have hlu5 := Nat.lt_of_lt_of_le hz0 hs5)
   (try have hlv5 := Nat.lt_of_lt_of_le hz1 hs5)
   have H1 := Lib.hid (OwnU.slice ho1); have H2 := Lib.hid (OwnU.slice ho2); clear ho1 ho2
   refine hK _ _ (by first | exact hb5 | exact (Ext.drew _).trans hb5) ?_
   clear hK K
   (try simp only [Act.put, List.setIfInBounds_toArray, List.set_cons_zero, List.set_cons_succ]))
  (refine ext_do rfl (by rfl) (fun K hK => ?_)
   go_simp
   go_at_call 15
   refine (rzero_any gr pc _ hgr hpc).mono ?_
   rintro e w6 ⟨v3, v4, rfl, ho3, ho4, hb6⟩
   have hx6 : Ext W w6 := hx5.trans hb6
   have hc6 := hx6.cells
   have hs6 := hx6.size
   have hq6 := Below.size hb6
   have hlt6 := Nat.lt_of_lt_of_le hz hs6
   (try have hlu6 := Nat.lt_of_lt_of_le hz0 hs6)
   (try have hlv6 := Nat.lt_of_lt_of_le hz1 hs6)
   have H3 := Lib.hid (OwnU.slice ho3); have H4 := Lib.hid (OwnU.slice ho4); clear ho3 ho4
   refine hK _ _ (by first | exact hb6 | exact (Ext.drew _).trans hb6) ?_
   clear hK K
   (try simp only [Act.put, List.setIfInBounds_toArray, List.set_cons_zero, List.set_cons_succ]))
  (refine ext_do rfl (by rfl) (fun K hK => ?_)
   go_simp
   go_at_call 13
   refine (same_any _ _ _ _ (zvers (zn pc)) (zsums gr (zn pc)) (zvers (zn pc)) (zsums gr (zn pc)) _ (by rw [zvers_len]; exact zn_le pc) (by rw [zsums_len]; exact zn_le pc) (by rw [zvers_len]; exact zn_le pc) (by rw [zsums_len]; exact zn_le pc) (H1.out.ext hb6) (H2.out.ext hb6) H3.out H4.out).mono ?_
   rintro e w7 ⟨rfl, hb7⟩
   have hx7 : Ext W w7 := hx6.trans hb7
   have hc7 := hx7.cells
   have hs7 := hx7.size
   have hq7 := Below.size hb7
   have hlt7 := Nat.lt_of_lt_of_le hz hs7
   (try have hlu7 := Nat.lt_of_lt_of_le hz0 hs7)
   (try have hlv7 := Nat.lt_of_lt_of_le hz1 hs7)
   skip
   refine hK _ _ (by first | exact hb7 | exact (Ext.drew _).trans hb7) ?_
   clear hK K
   (try simp only [Act.put, List.setIfInBounds_toArray, List.set_cons_zero, List.set_cons_succ]))
  iterate 2 (first
   | (refine ext_move rfl rfl (by rfl) (by rfl) ?_; simp only [Act.put, List.setIfInBounds_toArray, List.set_cons_zero, List.set_cons_succ])
   | (refine ext_assign rfl rfl (by rfl) (by rfl) ?_; simp only [Act.put, List.setIfInBounds_toArray, List.set_cons_zero, List.set_cons_succ])
   | (refine ext_pick_t rfl rfl (by rfl) (by rfl) (by rfl) ?_; simp only [Act.put, List.setIfInBounds_toArray, List.set_cons_zero, List.set_cons_succ])
   | (refine ext_pick_f rfl rfl (by rfl) (by rfl) (by rfl) ?_; simp only [Act.put, List.setIfInBounds_toArray, List.set_cons_zero, List.set_cons_succ])
   | (apply ext_take rfl (by rfl)
      · intro w' hS
        have hSc := hS.cells
        (try simp only [World.size_drew, World.cell?_drew] at hSc)
        go_simp
        (try simp (disch := omega) only [i64_id, u64_id, ↓IntWalk.iteOmega, Int.tdiv_eq_ediv_of_nonneg, Int.tmod_eq_emod_of_nonneg])
        try rfl
      simp only [Act.put, List.setIfInBounds_toArray, List.set_cons_zero, List.set_cons_succ])
   | (refine ext_pass rfl (by rfl) ?_; simp only [Act.put, List.setIfInBounds_toArray, List.set_cons_zero, List.set_cons_succ]))
  refine ext_nil ?_
  rw [show sameB (zvers (zn pc)) (zsums gr (zn pc)) (zvers (zn pc)) (zsums gr (zn pc)) = true from sameB_yes (eqL_self _) (eqL_self _)]
  go_wp2_with fail
  go_ret
  exact ⟨rfl, hxW.trans hx7⟩
end Go.Proofs.Ytinnikbjphkkiaa
