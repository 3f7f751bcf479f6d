/-
  Chapter 25 (piecesum): the walk of PiecesumZero.
-/
import Derived.Test.YtinnikbjphkkiaaPsR
namespace Go.Proofs.Ytinnikbjphkkiaa
open Go.RowKit
set_option linter.unusedVariables false
attribute [local go_sem] eq_zero_un

theorem bad_zero (g : Int) (n : Nat) : badB (zvers n) (zsums g n) g [] [] [] = List.replicate n false := by
  unfold badB
  rw [zvers_len, zsums_len, Nat.min_self]
  unfold badK
  refine List.ext_getElem (by simp) fun i h1 h2 => ?_
  have hi : i < n := by simpa using h1
  simp only [List.getElem_map, List.getElem_range, List.getElem_replicate]
  have hv : verB [] [] i = 0#64 := by simp [verB, thereB]
  have hd : blkB [] [] i = zero8 := by simp [blkB, thereB]
  rw [hv, hd, goodB_at (by rw [zvers_len, zsums_len, Nat.min_self]; exact hi), zvers_get, zsums_get _ _ _ hi]
  simp
theorem good_zero (g p : Int) (n : Nat) (v : BitVec 64) (d : List (BitVec 8)) (hv : v ≠ 0#64) : goodB (zvers n) (zsums g n) g p v d = false := by
  unfold goodB
  rw [zvers_get, show decide (0#64 = v) = false by simpa using (Ne.symm hv)]
  simp
theorem SliceAt.bools_made (w : World) (n : Nat) (t : TypeId) : SliceAt Value.bool (w.alloc (.cells (madeCells #[.bool false] n) t)) (.slice (some ⟨w.heap.size, 0, none⟩) n n) (List.replicate n false) := by
  obtain ⟨c, h, hs, hc⟩ := World.rowIs_made w (.bool false) n t
  refine ⟨_, n, by simp, by simp, .inr ⟨_, 0, rfl, (Array.getElem?_eq_some_iff.1 h).1, fun i hi => ?_⟩⟩
  have hi' : i < n := by simpa using hi
  rw [Nat.zero_add]
  unfold World.cell?
  simp only [h, Option.isSome_none, Bool.false_eq_true, if_false]
  rw [hc i hi']; simp

def zeroPosts (g : Int) (n : Nat) : Nat → List Value → Value → World → Prop := fun i u v w => SliceAt Value.bool w v (List.replicate n false)

set_option maxHeartbeats 1000000 in
theorem piecesumZero_walk (gr : Int) (n : BitVec 8) (g p : Int) (v : BitVec 64) (x0 x1 x2 x3 x4 x5 x6 x7 : BitVec 8) (w : World) (hgr : I64 gr) (hg : I64 g) (hp : I64 p) :
    Calls Try.prog 7 #[.int .i64 gr, encB n, .agg #[encI g, encI p, encU v, encB x0, encB x1, encB x2, encB x3, encB x4, encB x5, encB x6, encB x7]] w fun e w' => e = .returned (.bool true) ∧ Below w.heap.size w w' := by
  unfold I64 at hgr hg hp
  have hn : n.toNat < 256 := n.isLt
  rw [show encB n = .int .u8 (n.toNat : Int) from rfl]
  generalize n.toNat = k at *
  have hq : ((k : Int) % 16 + 1) = ((k % 16 + 1 : Nat) : Int) := by omega
  have hN1 : 1 ≤ k % 16 + 1 := by omega
  have hN2 : k % 16 + 1 ≤ 16 := by omega
  generalize hN : k % 16 + 1 = N at *
  have hzn : Hid (zn (N : Int) = N) := by show _ = _; unfold zn; rw [if_neg (by omega)]; omega
  have hmk := fun w => run_make_row' (P := Try.prog) 36 4 (.bool false) 1 Try.underlying36 infoT rfl .i64 .i64 N (by omega) (by omega) w
  clear hN
  go_enter Try.func7, Try.ntmps7
  go_wp2_with fail
  have hz : w.heap.size < (w.alloc (.cells #[encI g, encI p, encU v, encB x0, encB x1, encB x2, encB x3, encB x4, encB x5, encB x6, encB x7] 26)).heap.size := by simp
  have hsz : (w.alloc (.cells #[encI g, encI p, encU v, encB x0, encB x1, encB x2, encB x3, encB x4, encB x5, encB x6, encB x7] 26)).heap.size = w.heap.size + 1 := by simp
  generalize hW : w.alloc (.cells #[encI g, encI p, encU v, encB x0, encB x1, encB x2, encB x3, encB x4, encB x5, encB x6, encB x7] 26) = W0 at *
  have c0_0 : W0.cell? ⟨w.heap.size, 0, none⟩ = some (encI g) := by rw [← hW]; first | exact (World.cell?_alloc_at (hn := by first | (simp; done) | (simp; omega)) ..).trans rfl | (simp; done) | (go_simp; done)
  have c0_1 : W0.cell? ⟨w.heap.size, 1, none⟩ = some (encI p) := by rw [← hW]; first | exact (World.cell?_alloc_at (hn := by first | (simp; done) | (simp; omega)) ..).trans rfl | (simp; done) | (go_simp; done)
  have c0_2 : W0.cell? ⟨w.heap.size, 2, none⟩ = some (encU v) := by rw [← hW]; first | exact (World.cell?_alloc_at (hn := by first | (simp; done) | (simp; omega)) ..).trans rfl | (simp; done) | (go_simp; done)
  have c0_3 : W0.cell? ⟨w.heap.size, 3, none⟩ = some (encB x0) := by rw [← hW]; first | exact (World.cell?_alloc_at (hn := by first | (simp; done) | (simp; omega)) ..).trans rfl | (simp; done) | (go_simp; done)
  have c0_4 : W0.cell? ⟨w.heap.size, 4, none⟩ = some (encB x1) := by rw [← hW]; first | exact (World.cell?_alloc_at (hn := by first | (simp; done) | (simp; omega)) ..).trans rfl | (simp; done) | (go_simp; done)
  have c0_5 : W0.cell? ⟨w.heap.size, 5, none⟩ = some (encB x2) := by rw [← hW]; first | exact (World.cell?_alloc_at (hn := by first | (simp; done) | (simp; omega)) ..).trans rfl | (simp; done) | (go_simp; done)
  have c0_6 : W0.cell? ⟨w.heap.size, 6, none⟩ = some (encB x3) := by rw [← hW]; first | exact (World.cell?_alloc_at (hn := by first | (simp; done) | (simp; omega)) ..).trans rfl | (simp; done) | (go_simp; done)
  have c0_7 : W0.cell? ⟨w.heap.size, 7, none⟩ = some (encB x4) := by rw [← hW]; first | exact (World.cell?_alloc_at (hn := by first | (simp; done) | (simp; omega)) ..).trans rfl | (simp; done) | (go_simp; done)
  have c0_8 : W0.cell? ⟨w.heap.size, 8, none⟩ = some (encB x5) := by rw [← hW]; first | exact (World.cell?_alloc_at (hn := by first | (simp; done) | (simp; omega)) ..).trans rfl | (simp; done) | (go_simp; done)
  have c0_9 : W0.cell? ⟨w.heap.size, 9, none⟩ = some (encB x6) := by rw [← hW]; first | exact (World.cell?_alloc_at (hn := by first | (simp; done) | (simp; omega)) ..).trans rfl | (simp; done) | (go_simp; done)
  have c0_10 : W0.cell? ⟨w.heap.size, 10, none⟩ = some (encB x7) := by rw [← hW]; first | exact (World.cell?_alloc_at (hn := by first | (simp; done) | (simp; omega)) ..).trans rfl | (simp; done) | (go_simp; done)
  have hf0 : ∀ o, W0.frozen? ⟨w.heap.size, o, none⟩ = false := fun o => by rw [← hW]; first | exact World.frozen?_alloc_at (hn := by first | (simp; done) | (simp; omega)) .. | (simp; done) | (go_simp; done)
  have hxW : Ext w W0 := by rw [← hW]; exact Ext.alloc _ _
  clear hW
  have HSZ := Lib.hid hsz
  clear hsz
  go_at_call 14
  refine (zero_any gr N _ hgr (by omega)).mono ?_
  rintro e w1 ⟨v1, v2, rfl, ho1, ho2, hb1⟩
  rw [hzn.out] at ho1 ho2
  have h1 := OwnU.slice ho1
  have h2 := OwnU.slice ho2
  have H1 := Lib.hid h1
  have H2 := Lib.hid h2
  have hl1 : Hid ((zvers N).length = N) := zvers_len N
  have hl2 : Hid ((zsums gr N).length = N) := zsums_len gr N
  have HBZ := Lib.hid (bad_zero gr N)
  have HGZ := Lib.hid (fun (hv : v ≠ 0#64) => good_zero gr p N v [x0, x1, x2, x3, x4, x5, x6, x7] hv)
  generalize zvers N = L1 at *
  generalize zsums gr N = L2 at *
  obtain ⟨a1, c1, rfl, _, _⟩ := h1
  obtain ⟨a2, c2, rfl, _, _⟩ := h2
  clear ho1 ho2
  have hc1 := Ext.cells hb1
  have hs1 := Ext.size hb1
  have hz1 : w.heap.size < w1.heap.size := by omega
  go_wp2_with fail
  have hxW1 : Ext w (w1.alloc (.cells #[.slice a1 L1.length c1, .slice a2 L2.length c2] 32)) := (hxW.trans hb1).trans (Ext.alloc _ _)
  have hxW2 : Ext w1 (w1.alloc (.cells #[.slice a1 L1.length c1, .slice a2 L2.length c2] 32)) := Ext.alloc _ _
  have hzz : w1.heap.size < (w1.alloc (.cells #[.slice a1 L1.length c1, .slice a2 L2.length c2] 32)).heap.size := by simp
  have d0 : (w1.alloc (.cells #[.slice a1 L1.length c1, .slice a2 L2.length c2] 32)).cell? ⟨w1.heap.size, 0, none⟩ = some (.slice a1 L1.length c1) := by simp
  have d1 : (w1.alloc (.cells #[.slice a1 L1.length c1, .slice a2 L2.length c2] 32)).cell? ⟨w1.heap.size, 1, none⟩ = some (.slice a2 L2.length c2) := by simp
  generalize w1.alloc (.cells #[.slice a1 L1.length c1, .slice a2 L2.length c2] 32) = W at *
  have hcW := hxW2.cells
  have hzW : w.heap.size < W.heap.size := by omega
  have hz0 := hzW
  have H1W := Lib.hid (H1.out.ext hxW2)
  have H2W := Lib.hid (H2.out.ext hxW2)
  have hzw0 := hz
  clear hz
  have hz := hzz
  have hxd := Ext.drew W
  refine wp_region_par [(0, false), (1, true), (2, true), (3, true), (4, true), (6, true)] [(5, 21), (7, 23)] [] [] [(8, false), (9, true), (10, true)] (by kernel_rfl) (by kernel_rfl) ?_
  (refine extK_do rfl (by rfl) (fun K hK => ?_)
   go_simp
   go_at_call 10
   refine (awake_any _).mono ?_
   rintro e w2 ⟨rfl, hb2⟩
   have hx2 : Ext W w2 := hxd.trans hb2
   have hc2 := hx2.cells
   have hs2 := hx2.size
   have hq2 := Below.size hb2
   have hlt2 := Nat.lt_of_lt_of_le hz hs2
   (try have hlu2 := Nat.lt_of_lt_of_le hz0 hs2)
   (try have hlv2 := Nat.lt_of_lt_of_le hz1 hs2)
   skip
   refine hK _ _ (by first | exact hb2 | exact (Ext.drew _).trans hb2) ?_
   clear hK K
   (try simp only [Act.put, List.setIfInBounds_toArray, List.set_cons_zero, List.set_cons_succ]))
  iterate 5 (first
   | (refine extK_move rfl rfl (by rfl) (by rfl) ?_; simp only [Act.put, List.setIfInBounds_toArray, List.set_cons_zero, List.set_cons_succ])
   | (refine extK_assign rfl rfl (by rfl) (by rfl) ?_; simp only [Act.put, List.setIfInBounds_toArray, List.set_cons_zero, List.set_cons_succ])
   | (refine extK_pick_t rfl rfl (by rfl) (by rfl) (by rfl) ?_; simp only [Act.put, List.setIfInBounds_toArray, List.set_cons_zero, List.set_cons_succ])
   | (refine extK_pick_f rfl rfl (by rfl) (by rfl) (by rfl) ?_; simp only [Act.put, List.setIfInBounds_toArray, List.set_cons_zero, List.set_cons_succ])
   | (apply extK_take rfl (by rfl)
      · intro w' hS
        have hSc := hS.cells
        (try simp only [World.size_drew, World.cell?_drew] at hSc)
        go_simp
        (try simp (disch := omega) only [i64_id, u64_id, ↓IntWalk.iteOmega, Int.tdiv_eq_ediv_of_nonneg, Int.tmod_eq_emod_of_nonneg])
        try rfl
      simp only [Act.put, List.setIfInBounds_toArray, List.set_cons_zero, List.set_cons_succ])
   | (refine extK_pass rfl (by rfl) ?_; simp only [Act.put, List.setIfInBounds_toArray, List.set_cons_zero, List.set_cons_succ]))
  refine extK_nil ?_
  refine ⟨fun _ _ v w => SliceAt Value.bool w v (List.replicate N false), ?_, ?_, ?_⟩
  · exact ⟨fun _ _ _ _ e h => h.ext e, fun _ _ _ _ e h => h.ext e, trivial⟩
  · refine ⟨fun vals x hx hp => ⟨_, rfl, by rfl, fun K hK => ?_⟩, fun vals x hx hp => ⟨_, rfl, by rfl, fun K hK => ?_⟩, trivial⟩
    all_goals simp only [laidT, Act.put, List.setIfInBounds_toArray, List.set_cons_zero, List.set_cons_succ] at hK ⊢
    · go_simp
      go_at_call 18
      refine (pbad_any _ _ _ _ _ L1 L2 gr [] [] [] _ (by rw [hl1.out]; omega) (by rw [hl2.out]; omega) (by simp) (by simp) (by simp) hgr (H1W.out.ext (hx2.trans hx)) (H2W.out.ext (hx2.trans hx)) SliceAt.nil SliceR.nil SliceAt.nil).mono ?_
      rintro e w4 ⟨v4, rfl, ho4, hb4⟩
      rw [HBZ.out] at ho4
      exact hK _ _ hb4 (OwnT.slice ho4) (fun h => absurd h (by decide))
    · go_simp
      exact hK _ _ (Ext.alloc _ _) (SliceAt.bools_made _ _ _) (fun h => absurd h (by decide))
  · intro vals w3 hx3 hp _ _
    have hv1 : SliceAt Value.bool w3 (vals 5) (List.replicate N false) := hp.1
    have hv2 : SliceAt Value.bool w3 (vals 7) (List.replicate N false) := hp.2.1
    have HV1 := Lib.hid hv1
    have HV2 := Lib.hid hv2
    simp only [laidT, Act.put, List.setIfInBounds_toArray, List.set_cons_zero, List.set_cons_succ]
    generalize vals 5 = u5 at *
    generalize vals 7 = u7 at *
    clear hp hv1 hv2
    have hx4 := hx2.trans hx3
    have hc4 := hx4.cells
    have hs4 := hx4.size
    (refine ext_do rfl (by rfl) (fun K hK => ?_)
     go_simp
     go_at_call 17
     refine (bools_any u5 u7 (List.replicate N false) (List.replicate N false) _ (by simp; omega) (by simp; omega) HV1.out HV2.out).mono ?_
     rintro e w5 ⟨rfl, hb5⟩
     have hx5 : Ext W w5 := hx4.trans hb5
     have hc5 := hx5.cells
     have hs5 := hx5.size
     have hq5 := Below.size hb5
     have hlt5 := Nat.lt_of_lt_of_le hz hs5
     (try have hlu5 := Nat.lt_of_lt_of_le hz0 hs5)
     (try have hlv5 := Nat.lt_of_lt_of_le hz1 hs5)
     skip
     refine hK _ _ (by first | exact hb5 | exact (Ext.drew _).trans hb5) ?_
     clear hK K
     (try simp only [Act.put, List.setIfInBounds_toArray, List.set_cons_zero, List.set_cons_succ]))
    rw [eqL_self]
    iterate 2 (first
     | (refine ext_move rfl rfl (by rfl) (by rfl) ?_; simp only [Act.put, List.setIfInBounds_toArray, List.set_cons_zero, List.set_cons_succ])
     | (refine ext_assign rfl rfl (by rfl) (by rfl) ?_; simp only [Act.put, List.setIfInBounds_toArray, List.set_cons_zero, List.set_cons_succ])
     | (refine ext_pick_t rfl rfl (by rfl) (by rfl) (by rfl) ?_; simp only [Act.put, List.setIfInBounds_toArray, List.set_cons_zero, List.set_cons_succ])
     | (refine ext_pick_f rfl rfl (by rfl) (by rfl) (by rfl) ?_; simp only [Act.put, List.setIfInBounds_toArray, List.set_cons_zero, List.set_cons_succ])
     | (apply ext_take rfl (by rfl)
        · intro w' hS
          have hSc := hS.cells
          (try simp only [World.size_drew, World.cell?_drew] at hSc)
          go_simp
          (try simp (disch := omega) only [i64_id, u64_id, ↓IntWalk.iteOmega, Int.tdiv_eq_ediv_of_nonneg, Int.tmod_eq_emod_of_nonneg])
          try rfl
        simp only [Act.put, List.setIfInBounds_toArray, List.set_cons_zero, List.set_cons_succ])
     | (refine ext_pass rfl (by rfl) ?_; simp only [Act.put, List.setIfInBounds_toArray, List.set_cons_zero, List.set_cons_succ]))
    refine ext_nil ?_
    by_cases hv : v = 0#64
    · have hd : decide (v = 0#64) = true := by rw [decide_eq_true_eq]; exact hv
      clear hv
      go_wp2_with fail
      go_ret
      exact ⟨rfl, hxW1.trans hx5⟩
    · have hd : decide (v = 0#64) = false := by rw [decide_eq_false_iff_not]; exact hv
      have HG := Lib.hid (HGZ.out hv)
      clear hv
      go_wp2_with fail
      go_at_call 22
      refine (good_any _ _ L1 L2 gr p v x0 x1 x2 x3 x4 x5 x6 x7 _ (by rw [hl1.out]; omega) (by rw [hl2.out]; omega) hgr hp (H1W.out.ext hx5) (H2W.out.ext hx5)).mono ?_
      rintro e w6 ⟨rfl, hb6⟩
      rw [HG.out]
      go_wp2_with fail
      go_ret
      exact ⟨rfl, hxW1.trans (hx5.trans hb6)⟩
end Go.Proofs.Ytinnikbjphkkiaa
