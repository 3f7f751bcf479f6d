/-
  Chapter 30 (label): Equal of the answer.
-/
import Derived.Test.YthjcdikpomlpmaaLbI
namespace Go.Proofs.Ythjcdikpomlpmaa
open Go.RowKit
set_option linter.unusedVariables false

set_option maxRecDepth 100000 in
set_option maxHeartbeats 4000000 in
theorem requal_any (a b : Lab) (v1 v2 : Value) (x y : List Bool) (w : World) (hlx : x.length ≤ 100000) (hly : y.length ≤ 100000) (hx : SliceAt Value.bool w v1 x) (hy : SliceAt Value.bool w v2 y) :
    Calls Try.prog 20 #[labV a v1, labV b v2] w (BoolEnd w (eqL a b x y)) := by
  obtain ⟨ad1, cap1, rfl⟩ := hx.shape
  obtain ⟨ad2, cap2, rfl⟩ := hy.shape
  have HS1 := Lib.hid hx
  have HS2 := Lib.hid hy
  have HC := Lib.hid (run_eq_cfg a.c b.c)
  have HX : Hid (eqL a b x y = ((un a.array == un b.array) && ((un a.gen == un b.gen) && ((un a.prev == un b.prev) && (eqCfg a.c b.c && (eqD x y && ((a.blob == b.blob) && ((un a.sum == un b.sum) && (un a.root == un b.root))))))))) := rfl
  obtain ⟨X, hX⟩ : ∃ X, eqL a b x y = X := ⟨_, rfl⟩
  rw [hX] at HX ⊢
  have hne : ∀ {p q : Int} {z : Bool}, (p == q) = z → (p != q) = !z := fun h => by rw [bne, h]
  obtain ⟨x1, h1⟩ : ∃ z, (un a.array == un b.array) = z := ⟨_, rfl⟩
  obtain ⟨x2, h2⟩ : ∃ z, (un a.gen == un b.gen) = z := ⟨_, rfl⟩
  obtain ⟨x3, h3⟩ : ∃ z, (un a.prev == un b.prev) = z := ⟨_, rfl⟩
  obtain ⟨x4, h4⟩ : ∃ z, eqCfg a.c b.c = z := ⟨_, rfl⟩
  obtain ⟨x5, h5⟩ : ∃ z, ((x.length : Int) == y.length) = z := ⟨_, rfl⟩
  obtain ⟨xd, hd⟩ : ∃ z, eqD x y = z := ⟨_, rfl⟩
  obtain ⟨x6, h6⟩ : ∃ z, (a.blob == b.blob) = z := ⟨_, rfl⟩
  obtain ⟨x7, h7⟩ : ∃ z, (un a.sum == un b.sum) = z := ⟨_, rfl⟩
  obtain ⟨x8, h8⟩ : ∃ z, (un a.root == un b.root) = z := ⟨_, rfl⟩
  have n1 := hne h1
  have n2 := hne h2
  have n3 := hne h3
  have n5 := hne h5
  have n6 := hne h6
  have n7 := hne h7
  have n8 := hne h8
  have hlen : x5 = false → xd = false := fun h => by rw [h, beq_eq_false_iff_ne] at h5; rw [← hd]; exact eqD_len (by omega)
  have hle : x5 = true → x.length = y.length := fun h => by rw [h, beq_iff_eq] at h5; omega
  rw [h1, h2, h3, h4, hd, h6, h7, h8] at HX
  rw [h4] at HC
  have hXe := HX.out
  have hcond : x1 = false ∧ X = false ∨ x1 = true ∧ (x2 = false ∧ X = false ∨ x2 = true ∧ (x3 = false ∧ X = false ∨ x3 = true ∧ (x4 = false ∧ X = false ∨ x4 = true ∧ (x5 = false ∧ X = false ∨ x5 = true ∧ (x6 = false ∧ X = false ∨ x6 = true ∧ (x7 = false ∧ X = false ∨ x7 = true ∧ (x8 = false ∧ X = false ∨ x8 = true ∧ X = xd))))))) := by
    rw [hXe]
    cases x1 <;> cases x2 <;> cases x3 <;> cases x4 <;> cases x5 <;> cases x6 <;> cases x7 <;> cases x8 <;> simp [hlen]
  have HLE := Lib.hid hle
  have HDD := Lib.hid hd
  clear hXe HX hX hx hy h1 h2 h3 h4 h5 h6 h7 h8 hd hne hlen hle
  rcases hcond with ⟨rfl, rfl⟩ | ⟨rfl, ⟨rfl, rfl⟩ | ⟨rfl, ⟨rfl, rfl⟩ | ⟨rfl, ⟨rfl, rfl⟩ | ⟨rfl, ⟨rfl, rfl⟩ | ⟨rfl, ⟨rfl, rfl⟩ | ⟨rfl, ⟨rfl, rfl⟩ | ⟨rfl, ⟨rfl, rfl⟩ | ⟨rfl, rfl⟩⟩⟩⟩⟩⟩⟩⟩
  all_goals
    have HA : Hid (LabAt ((w.alloc (.cells (labA a (.slice ad1 x.length cap1)) 29)).alloc (.cells (labA b (.slice ad2 y.length cap2)) 29)) w.heap.size 0 a (.slice ad1 x.length cap1)) := (LabAt.of_box (BoxAt.new w _ _)).ext (Ext.alloc _ _)
    have HB : Hid (LabAt ((w.alloc (.cells (labA a (.slice ad1 x.length cap1)) 29)).alloc (.cells (labA b (.slice ad2 y.length cap2)) 29)) (w.heap.size + 1) 0 b (.slice ad2 y.length cap2)) := by
      have := LabAt.of_box (l := b) (d := .slice ad2 y.length cap2) (BoxAt.new (w.alloc (.cells (labA a (.slice ad1 x.length cap1)) 29)) (labA b (.slice ad2 y.length cap2)) 29)
      simp only [World.size_alloc] at this
      exact this
    have HE : Hid (Ext w ((w.alloc (.cells (labA a (.slice ad1 x.length cap1)) 29)).alloc (.cells (labA b (.slice ad2 y.length cap2)) 29))) := (Ext.alloc _ _).trans (Ext.alloc _ _)
    go_enter Try.func20, Try.ntmps20
    have hcq := HC.out
    go_wp2_with (first | (refine wpList_loadR 26 _ rfl (by rfl) rfl HA.out.cfg ?_) | (refine wpList_loadR 26 _ rfl (by rfl) rfl HB.out.cfg ?_))
  iterate 8
    · go_ret
      exact ⟨rfl, HE.out⟩
  have hlen := HLE.out trivial
  obtain ⟨n, hn⟩ : ∃ n, x.length = n := ⟨_, rfl⟩
  have HN1 := Lib.hid hn
  have HN2 : Hid (y.length = n) := hlen.symm.trans hn
  rw [← hlen] at HS2 HA HB HE
  rw [hn] at HS1 HS2 HA HB HE hlx
  rw [← hlen, hn]
  clear hlen hn HLE hcq n1 n2 n3 n5 n6 n7 n8 hly
  go_loopw [5] (fun iv wr => ∃ i : Nat, i ≤ n ∧ iv = .int .i64 i ∧ Hid (x.take i = y.take i) ∧ Hid (LabAt wr w.heap.size 0 a (.slice ad1 n cap1)) ∧ Hid (LabAt wr (w.heap.size + 1) 0 b (.slice ad2 n cap2)) ∧ Hid (Ext w wr)) (fun iv _ => n - (intOf iv).toNat)
  case atStart => exact ⟨0, Nat.zero_le _, rfl, by show _ = _; simp, HA, HB, HE⟩
  case round =>
    obtain ⟨i, hi, rfl, HT, HAr, HBr, HXr⟩ := hrel
    have a15 := HAr.out.cell0 15 (v := .slice ad1 n cap1) rfl
    have b15 := HBr.out.cell0 15 (v := .slice ad2 n cap2) rfl
    have hl1 := HAr.out.2
    have hl2 := HBr.out.2
    by_cases hlt : i < n
    · have hin : (i : Int) < (n : Int) := by omega
      have hi0 : (0 : Int) ≤ (i : Int) := by omega
      obtain ⟨b1, off1, rfl, hb1, hc1⟩ := (HS1.out.ext HXr.out).get i (by rw [HN1.out]; exact hlt)
      obtain ⟨b2, off2, rfl, hb2, hc2⟩ := (HS2.out.ext HXr.out).get i (by rw [HN2.out]; exact hlt)
      have HNE : Hid (x[i]'(by rw [HN1.out]; exact hlt) ≠ y[i]'(by rw [HN2.out]; exact hlt) → X = false) := fun h => by rw [← HDD.out]; exact eqD_at _ _ h
      have HEQ : Hid (x[i]'(by rw [HN1.out]; exact hlt) = y[i]'(by rw [HN2.out]; exact hlt) → x.take (i + 1) = y.take (i + 1)) := fun h => take_next _ _ HT.out h
      generalize x[i]'(by rw [HN1.out]; exact hlt) = p at *
      generalize y[i]'(by rw [HN2.out]; exact hlt) = q at *
      cases p <;> cases q
      all_goals
        go_wp2_with fail
        refine wp_region_ext [(0, true), (1, true), (2, true), (3, true), (4, true), (5, true), (6, true), (7, true), (8, true), (9, true), (10, true)] (by kernel_rfl) (by kernel_rfl) ?_
        iterate 11 (first
         | (refine ext_move rfl rfl (by rfl) (by rfl) ?_; simp only [Act.put, List.setIfInBounds_toArray, List.set_cons_zero, List.set_cons_succ])
         | (refine ext_assign rfl rfl (by rfl) (by rfl) ?_; simp only [Act.put, List.setIfInBounds_toArray, List.set_cons_zero, List.set_cons_succ])
         | (refine ext_pick_t rfl rfl (by rfl) (by rfl) (by rfl) ?_; simp only [Act.put, List.setIfInBounds_toArray, List.set_cons_zero, List.set_cons_succ])
         | (refine ext_pick_f rfl rfl (by rfl) (by rfl) (by rfl) ?_; simp only [Act.put, List.setIfInBounds_toArray, List.set_cons_zero, List.set_cons_succ])
         | (apply ext_take rfl (by rfl)
            · intro w' hS
              have hSc := hS.cells
              (try simp only [World.size_drew, World.cell?_drew] at hSc)
              go_simp
              (try simp (disch := omega) only [i64_id, u64_id, ↓IntWalk.iteOmega, Int.tdiv_eq_ediv_of_nonneg, Int.tmod_eq_emod_of_nonneg])
              try rfl
            simp only [Act.put, List.setIfInBounds_toArray, List.set_cons_zero, List.set_cons_succ])
         | (refine ext_pass rfl (by rfl) ?_; simp only [Act.put, List.setIfInBounds_toArray, List.set_cons_zero, List.set_cons_succ]))
        refine ext_nil ?_
        go_wp2_with fail
      · go_roundw
        case rel => exact ⟨i + 1, by omega, by go_num, HEQ.out (by simp), HAr.out.ext (Ext.drew _), HBr.out.ext (Ext.drew _), HXr.out.trans (Ext.drew _)⟩
        case measure => simp [intOf]; omega
      · rw [HNE.out (by simp)]
        go_ret
        exact ⟨rfl, HXr.out.trans (Ext.drew _)⟩
      · rw [HNE.out (by simp)]
        go_ret
        exact ⟨rfl, HXr.out.trans (Ext.drew _)⟩
      · go_roundw
        case rel => exact ⟨i + 1, by omega, by go_num, HEQ.out (by simp), HAr.out.ext (Ext.drew _), HBr.out.ext (Ext.drew _), HXr.out.trans (Ext.drew _)⟩
        case measure => simp [intOf]; omega
    · have hin : i = n := by omega
      subst hin
      have hin2 : ¬ ((i : Int) < (i : Int)) := by omega
      go_wp2_with fail
      go_ret
      exact ⟨by rw [← HDD.out, eqD_all (HN1.out.trans HN2.out.symm) (by rw [HN1.out]; exact HT.out)]; rfl, HXr.out⟩
end Go.Proofs.Ythjcdikpomlpmaa
