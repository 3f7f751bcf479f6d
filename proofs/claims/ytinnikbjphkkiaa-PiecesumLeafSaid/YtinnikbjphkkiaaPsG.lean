/-
  Chapter 25 (piecesum): Zero of both packages.
-/
import Derived.Test.YtinnikbjphkkiaaPsF
namespace Go.Proofs.Ytinnikbjphkkiaa
open Go.RowKit
set_option linter.unusedVariables false

/-- the number of pieces of a leaf that was never written -/
def zn (wd : Int) : Nat := if wd < 1 ∨ 16 < wd then 0 else wd.toNat
def zvers (n : Nat) : List (BitVec 64) := List.replicate n 0#64
def zsums (g : Int) (n : Nat) : List (BitVec 64) := (List.range n).map fun (i : Nat) => psum g (i : Int) 0#64 [0#8, 0#8, 0#8, 0#8, 0#8, 0#8, 0#8, 0#8]
theorem zvers_succ (n : Nat) : zvers (n + 1) = zvers n ++ [0#64] := by simp [zvers, List.replicate_succ']
theorem zsums_succ (g : Int) (n : Nat) : zsums g (n + 1) = zsums g n ++ [psum g n 0#64 [0#8, 0#8, 0#8, 0#8, 0#8, 0#8, 0#8, 0#8]] := by simp [zsums, List.range_succ]
theorem zvers_len (n : Nat) : (zvers n).length = n := by simp [zvers]
theorem zsums_len (g : Int) (n : Nat) : (zsums g n).length = n := by simp [zsums]

theorem own_shape {w : World} {base : Nat} {e : TypeId} {size : Nat} {v : Value} {n : Nat} {xs : List Value} (h : w.ownsRow base e size v n xs) : ∃ a c, v = .slice a n c := by
  rcases h.2 with ⟨rfl, h2⟩ | ⟨g, cap, cur, rfl, _⟩
  · obtain ⟨h1, _⟩ := h
    exact ⟨none, 0, by simp_all⟩
  · exact ⟨_, _, rfl⟩
theorem Two.done {B : Nat} {w wr : World} {t : TypeId} {l1 l2 : List (BitVec 64)} {v1 v2 : Value} (h : Two B w t l1 l2 v1 v2 wr) (x y : Value) :
    OwnU ((wr.setCell ⟨B, 0, none⟩ x).setCell ⟨B, 1, none⟩ y) B v1 l1 ∧ OwnU ((wr.setCell ⟨B, 0, none⟩ x).setCell ⟨B, 1, none⟩ y) B v2 l2 ∧ Below B w ((wr.setCell ⟨B, 0, none⟩ x).setCell ⟨B, 1, none⟩ y) := by
  have h1 : OwnU ((wr.setCell ⟨B, 0, none⟩ x).setCell ⟨B, 1, none⟩ y) (B + 2) v1 l1 := ownsRow_setCell_below (ownsRow_setCell_below h.o1 (show B < B + 2 by omega) _) (show B < B + 2 by omega) _
  have h2 : OwnU ((wr.setCell ⟨B, 0, none⟩ x).setCell ⟨B, 1, none⟩ y) (B + 2) v2 l2 := ownsRow_setCell_below (ownsRow_setCell_below h.o2 (show B < B + 2 by omega) _) (show B < B + 2 by omega) _
  exact ⟨h1.lower (by omega), h2.lower (by omega), (h.bl.setCell (Nat.le_refl _) _).setCell (Nat.le_refl _) _⟩
theorem cell_new1 (w : World) (x : Value) (t : TypeId) : (w.alloc (.cells #[x] t)).cell? ⟨w.heap.size, 0, none⟩ = some x := by
  simp

set_option maxHeartbeats 800000 in
theorem zero_any (g wd : Int) (w : World) (hg : -9223372036854775808 ≤ g ∧ g ≤ 9223372036854775807) (hwd : -9223372036854775808 ≤ wd ∧ wd ≤ 9223372036854775807) :
    Calls Try.prog 14 #[.int .i64 g, .int .i64 wd] w fun e w' => ∃ v1 v2, e = .returned (.agg #[v1, v2]) ∧ OwnU w' w.heap.size v1 (zvers (zn wd)) ∧ OwnU w' w.heap.size v2 (zsums g (zn wd)) ∧ Below w.heap.size w w' := by
  obtain ⟨i0, hi, hz0, hz1, hz2⟩ := info_parts infoU
  have hT := Two.start w 32
  by_cases h1 : wd < 1
  · have hn : zn wd = 0 := by unfold zn; rw [if_pos (Or.inl h1)]
    rw [hn]
    clear hn
    go_enter Try.func14, Try.ntmps14
    go_wp2
    refine bodyPost_ret (v := .agg #[.slice none 0 0, .slice none 0 0]) ?_ rfl ⟨_, _, rfl, OwnU.nil _ _, OwnU.nil _ _, hT.bl⟩
    simp only [results, Try.results14]
    go_simp
  · by_cases h2 : 16 < wd
    · have hn : zn wd = 0 := by unfold zn; rw [if_pos (Or.inr h2)]
      rw [hn]
      clear hn
      go_enter Try.func14, Try.ntmps14
      go_wp2
      refine bodyPost_ret (v := .agg #[.slice none 0 0, .slice none 0 0]) ?_ rfl ⟨_, _, rfl, OwnU.nil _ _, OwnU.nil _ _, hT.bl⟩
      simp only [results, Try.results14]
      go_simp
    · have hn : zn wd = wd.toNat := by unfold zn; rw [if_neg (by omega)]
      rw [hn]
      clear hn
      obtain ⟨n, rfl⟩ : ∃ n : Nat, wd = n := ⟨wd.toNat, by omega⟩
      have hn16 : n ≤ 16 := by omega
      have hn1 : 1 ≤ n := by omega
      rw [show ((n : Int)).toNat = n from rfl]
      go_enter Try.func14, Try.ntmps14
      go_wp2
      have HT := Lib.hid hT
      clear hT
      go_loopw [15] (fun i wr => ∃ (k : Nat) (v1 v2 : Value), k ≤ n ∧ i = .int .i64 k ∧ Two w.heap.size w 32 (zvers k) (zsums g k) v1 v2 wr) (fun i _ => n - (intOf i).toNat)
      case atStart => exact ⟨0, _, _, by omega, rfl, by rw [show zvers 0 = [] from rfl, show zsums g 0 = [] from rfl]; exact HT.out⟩
      case round =>
        obtain ⟨k, v1, v2, hk, rfl, hr⟩ := hrel
        obtain ⟨a1, c1, hv1⟩ := own_shape hr.o1
        obtain ⟨a2, c2, hv2⟩ := own_shape hr.o2
        rw [zvers_len] at hv1
        rw [zsums_len] at hv2
        subst hv1 hv2
        have HR := Lib.hid hr
        have hb0 := hr.b0.lt
        have hb1 := hr.b1.lt
        have hc0 := hr.b1.cell 0 rfl
        have hc1 := hr.b1.cell 1 rfl
        have hf0 := hr.b1.free 0
        have hf1 := hr.b1.free 1
        clear hr
        rcases Nat.lt_or_ge k n with hkn | hkn
        · go_wp2_with (at_builtin; go_loud (refine wpList_append_u rfl _ _ _ rfl (w.heap.size + 2) 22 i0 (.int .u64 0) 8 Try.underlying30 hi hz0 hz1 hz2 rfl _ _ _ rfl (World.ownsRow.alloc HR.out.o1 _) _ 0#64 rfl (cell_new1 _ _ _) (by rw [zvers_len]; unfold maxLen; omega) (by rw [zvers_len]; omega) (by simp; omega) ?_; intro v1' w1 ho1 hg1 hat1; obtain ⟨a3, c3, hv3⟩ := own_shape ho1; rw [zvers_len] at hv3; subst hv3; have hbx := ((HR.out.ext (Ext.alloc _ _)).b1.grown hg1 (fun e => by have := (World.ownsRow.lt HR.out.o1 _ e.symm).1; omega)); have hcA := hbx.cell 0 rfl; have hfA := hbx.free 0; clear hbx; have HR1 := Lib.hid ((HR.out.ext (Ext.alloc _ _)).first (x := 0#64) ho1 hg1 hat1)))
          generalize hW1 : w1.setCell ⟨w.heap.size + 1, 0, none⟩ (.slice a3 (k + 1) c3) = W1 at *
          have hb0' := HR1.out.b0.lt
          have hb1' := HR1.out.b1.lt
          have hc0' := HR1.out.b1.cell 0 rfl
          have hc1' := HR1.out.b1.cell 1 rfl
          clear hc0 hc1 hf0 hf1
          refine wp_region_bel (w.heap.size + 2) (W1) ((Below.refl _ _)) [(0, true), (1, true), (2, true), (3, true), (4, true), (5, false), (6, false), (7, false), (8, true), (9, false)] (by kernel_rfl) (by kernel_rfl) ?_
          iterate 5 (first
           | (refine bel_move rfl rfl (by rfl) (by rfl) ?_; simp only [Act.put, List.setIfInBounds_toArray, List.set_cons_zero, List.set_cons_succ])
           | (apply bel_take rfl (by rfl)
              · intro w' hS
                have hSc := below_cellsB hS
                go_simp
                (try simp (disch := omega) only [i64_id, u64_id, ↓IntWalk.iteOmega, Int.tdiv_eq_ediv_of_nonneg, Int.tmod_eq_emod_of_nonneg])
                try rfl
              simp only [Act.put, List.setIfInBounds_toArray, List.set_cons_zero, List.set_cons_succ])
           | (refine bel_pass rfl (by rfl) ?_; simp only [Act.put, List.setIfInBounds_toArray, List.set_cons_zero, List.set_cons_succ]))
          (refine bel_do rfl (by rfl) (fun K hK => ?_)
           go_simp
           go_at_call 11
           refine (psum_any g k 0#64 0#8 0#8 0#8 0#8 0#8 0#8 0#8 0#8 _ hg (by omega)).mono ?_
           rintro e w2 ⟨rfl, hb2⟩
           have hx2 : Ext W1 w2 := (Ext.drew _).trans hb2
           have HR2 := Lib.hid (HR1.out.ext hx2)
           refine hK _ _ (Below.mono hx2 (by omega)) ?_
           clear hK K
           (try simp only [Act.put, List.setIfInBounds_toArray, List.set_cons_zero, List.set_cons_succ]))
          have hs2 := hx2.size
          have hbl2 : Below (w.heap.size + 2) W1 w2 := Below.mono hx2 (by omega)
          (refine bel_do rfl (by rfl) (fun K hK => ?_)
           go_simp
           refine hK _ _ (hbl2.alloc (by omega) _) ?_
           clear hK K
           (try simp only [Act.put, List.setIfInBounds_toArray, List.set_cons_zero, List.set_cons_succ]))
          (refine bel_do rfl (by rfl) (fun K hK => ?_)
           refine wp_of_list rfl ?_
           refine wpList_append_u rfl _ _ _ rfl (w.heap.size + 2) 22 i0 (.int .u64 0) 8 Try.underlying30 hi hz0 hz1 hz2 rfl _ _ _ rfl (World.ownsRow.alloc HR2.out.o2 _) _ (psum g k 0#64 [0#8, 0#8, 0#8, 0#8, 0#8, 0#8, 0#8, 0#8]) rfl (cell_new1 _ _ _) (by rw [zsums_len]; unfold maxLen; omega) (by rw [zsums_len]; omega) (by simp; omega) ?_
           intro v2' w3 ho3 hg3 hat3
           obtain ⟨a4, c4, hv4⟩ := own_shape ho3
           rw [zsums_len] at hv4
           subst hv4
           have hbx := ((HR2.out.ext (Ext.alloc _ _)).b1.grown hg3 (fun e => by have := (World.ownsRow.lt HR2.out.o2 _ e.symm).1; omega))
           have hcB := hbx.cell 1 rfl
           have hfB := hbx.free 1
           have HR3 := Lib.hid ((HR2.out.ext (Ext.alloc _ _)).second (x := psum g k 0#64 [0#8, 0#8, 0#8, 0#8, 0#8, 0#8, 0#8, 0#8]) ho3 hg3 hat3)
           have hbl3 : Below (w.heap.size + 2) W1 w3 := (hbl2.alloc (by omega) _).grown hg3 (by simp; omega) (fun k hk => (World.ownsRow.lt HR2.out.o2 k hk).1)
           refine hK _ _ hbl3 ?_
           clear hK K hbx ho3 hg3 hat3
           (try simp only [Act.put, List.setIfInBounds_toArray, List.set_cons_zero, List.set_cons_succ]))
          iterate 1 (first
           | (refine bel_move rfl rfl (by rfl) (by rfl) ?_; simp only [Act.put, List.setIfInBounds_toArray, List.set_cons_zero, List.set_cons_succ])
           | (apply bel_take rfl (by rfl)
              · intro w' hS
                have hSc := below_cellsB hS
                go_simp
                (try simp (disch := omega) only [i64_id, u64_id, ↓IntWalk.iteOmega, Int.tdiv_eq_ediv_of_nonneg, Int.tmod_eq_emod_of_nonneg])
                try rfl
              simp only [Act.put, List.setIfInBounds_toArray, List.set_cons_zero, List.set_cons_succ])
           | (refine bel_pass rfl (by rfl) ?_; simp only [Act.put, List.setIfInBounds_toArray, List.set_cons_zero, List.set_cons_succ]))
          (refine bel_last rfl (by rfl) (by kernel_rfl) (fun K hK => ?_)
           go_simp
           refine hK _ _ ?_
           clear hK K
           (try simp only [Act.put, List.setIfInBounds_toArray, List.set_cons_zero, List.set_cons_succ]))
          go_wp2
          go_roundw
          case rel => exact ⟨k + 1, _, _, by omega, by go_num, by rw [zvers_succ, zsums_succ]; exact HR3.out⟩
          case measure => show n - (intOf (.int .i64 ((k : Int) + 1))).toNat < n - (intOf (.int .i64 (k : Int))).toNat; unfold intOf; simp only; omega
        · have hd0 := HR.out.b0.cell 0 rfl
          have hd1 := HR.out.b0.cell 1 rfl
          have he0 := HR.out.b0.free 0
          have he1 := HR.out.b0.free 1
          go_wp2
          have hkn2 : k = n := by omega
          subst hkn2
          refine bodyPost_ret (v := .agg #[.slice a1 k c1, .slice a2 k c2]) ?_ rfl ⟨_, _, rfl, HR.out.done _ _⟩
          simp only [results, Try.results14]
          go_simp
end Go.Proofs.Ytinnikbjphkkiaa
