/-
  Part 34 of the proof.
-/
import Derived.Test.YtjabgpejmnpamaaGreatDoorY31
import Derived.Test.YtjabgpejmnpamaaGreatDoorY32
import Derived.Test.YtjabgpejmnpamaaGreatDoorY06
set_option linter.unusedVariables false
namespace Go.Proofs.YtjabgpejmnpamaaGreatDoor
open Go.RowKit
set_option maxRecDepth 100000
set_option maxHeartbeats 4000000 in
theorem groups_any (ra ro rc : Nat) (q : Nat → Nat × Nat × Nat) (w : World) (h : Rows54 w ra ro rc q) :
    Calls Tryz.prog 103 #[.agg #[.int .i64 5, .slice (some ⟨ra, ro, none⟩) 5 rc, .int .i64 1, .int .i64 0]] w fun e w' => e = .returned (.int .i64 5) ∧ Ext w w' := by
  have HR := Lib.hid h
  clear h
  go_enter Tryz.func103, Tryz.ntmps103
  have hb1 := BoxAt.new w #[.int .i64 5, .slice (some ⟨ra, ro, none⟩) 5 rc, .int .i64 1, .int .i64 0] 122
  have HB1 := Lib.hid hb1
  clear hb1
  go_wp2_with first | (go_at_call 155; refine (measure_any ra ro rc q _ (HR.out.ext (Ext.alloc _ _))).mono ?_; rintro e W1 ⟨a2, n2, c2, a3, n3, c3, rfl, hx1⟩; have HX1 := Lib.hid hx1; clear hx1) | (refine wpList_store_box 264 _ _ rfl (by rfl) rfl rfl (BoxAt.new W1 #[.int .i64 0, .slice none 0 0, .int .i64 0, .int .i64 0, .int .i64 0, .int .i64 0, .int .i64 0, .slice none 0 0, .slice none 0 0, .int .i64 0, .int .i64 0] 264) rfl (by kernel_rfl) (by simp [Value.oneCell']) ?_; intro W2 hS2; have HS2 := Lib.hid hS2; clear hS2) | (refine wpList_loadR 264 _ rfl (by rfl) rfl (box_load0 HS2.out.box Tryz.underlying264 rfl (by kernel_rfl)) ?_) | (go_at_call 156; refine (lgroups_any (some ⟨ra, ro, none⟩) a2 a3 5 n2 n3 rc c2 c3 4 4 _).mono ?_; rintro e W3 ⟨rfl, hx3⟩)
  go_ret
  exact ⟨rfl, ((show Ext w W2 from HS2.out.bel ((Ext.alloc _ _).trans (HX1.out.trans (Ext.alloc _ _))) (by have := HX1.out.size; simp at this; omega))).trans hx3⟩
set_option maxHeartbeats 4000000 in
theorem data_any (ra ro rc : Nat) (q : Nat → Nat × Nat × Nat) (w : World) (h : Rows54 w ra ro rc q) :
    Calls Tryz.prog 104 #[.agg #[.int .i64 5, .slice (some ⟨ra, ro, none⟩) 5 rc, .int .i64 1, .int .i64 0]] w fun e w' => e = .returned (.int .i64 1) ∧ Ext w w' := by
  have HR := Lib.hid h
  clear h
  go_enter Tryz.func104, Tryz.ntmps104
  have hb1 := BoxAt.new w #[.int .i64 5, .slice (some ⟨ra, ro, none⟩) 5 rc, .int .i64 1, .int .i64 0] 122
  have HB1 := Lib.hid hb1
  clear hb1
  go_wp2_with first | (go_at_call 155; refine (measure_any ra ro rc q _ (HR.out.ext (Ext.alloc _ _))).mono ?_; rintro e W1 ⟨a2, n2, c2, a3, n3, c3, rfl, hx1⟩; have HX1 := Lib.hid hx1; clear hx1) | (refine wpList_store_box 264 _ _ rfl (by rfl) rfl rfl (BoxAt.new W1 #[.int .i64 0, .slice none 0 0, .int .i64 0, .int .i64 0, .int .i64 0, .int .i64 0, .int .i64 0, .slice none 0 0, .slice none 0 0, .int .i64 0, .int .i64 0] 264) rfl (by kernel_rfl) (by simp [Value.oneCell']) ?_; intro W2 hS2; have HS2 := Lib.hid hS2; clear hS2) | (refine wpList_loadR 264 _ rfl (by rfl) rfl (box_load0 HS2.out.box Tryz.underlying264 rfl (by kernel_rfl)) ?_) | (go_at_call 157; refine (ldata_any (some ⟨ra, ro, none⟩) a2 a3 5 n2 n3 rc c2 c3 4 4 _).mono ?_; rintro e W3 ⟨rfl, hx3⟩)
  go_ret
  exact ⟨rfl, ((show Ext w W2 from HS2.out.bel ((Ext.alloc _ _).trans (HX1.out.trans (Ext.alloc _ _))) (by have := HX1.out.size; simp at this; omega))).trans hx3⟩
set_option maxHeartbeats 4000000 in
theorem slots_any (ra ro rc : Nat) (q : Nat → Nat × Nat × Nat) (w : World) (h : Rows54 w ra ro rc q) :
    Calls Tryz.prog 52 #[.agg #[.int .i64 5, .slice (some ⟨ra, ro, none⟩) 5 rc, .int .i64 1, .int .i64 0]] w fun e w' => e = .returned (.int .i64 5) ∧ Ext w w' := by
  have HR := Lib.hid h
  clear h
  go_enter Tryz.func52, Tryz.ntmps52
  go_wp2_with fail
  have hz : w.heap.size < (w.alloc (.cells #[.int .i64 5, .slice (some ⟨ra, ro, none⟩) 5 rc, .int .i64 1, .int .i64 0] 122)).heap.size := by simp
  generalize hW : w.alloc (.cells #[.int .i64 5, .slice (some ⟨ra, ro, none⟩) 5 rc, .int .i64 1, .int .i64 0] 122) = W at *
  have c0 : W.cell? ⟨w.heap.size, 0, none⟩ = some (.int .i64 5) := by rw [← hW]; simp
  have c1 : W.cell? ⟨w.heap.size, 1, none⟩ = some (.slice (some ⟨ra, ro, none⟩) 5 rc) := by rw [← hW]; simp
  have c2 : W.cell? ⟨w.heap.size, 2, none⟩ = some (.int .i64 1) := by rw [← hW]; simp
  have c3 : W.cell? ⟨w.heap.size, 3, none⟩ = some (.int .i64 0) := by rw [← hW]; simp
  have hxW : Ext w W := by rw [← hW]; exact Ext.alloc _ _
  have hbF : ∀ o, W.frozen? ⟨w.heap.size, o, none⟩ = false := fun o => by rw [← hW]; simp
  have HBF := Lib.hid hbF
  clear hW hbF
  have HRW := Lib.hid (HR.out.ext hxW)
  have HXW := Lib.hid hxW
  clear hxW
  refine wp_region_ext [(0, true), (2, true), (1, false), (3, false), (4, true), (5, true)] (by kernel_rfl) (by kernel_rfl) ?_
  iterate 2 ((first
   | refine ext_move rfl rfl (by rfl) (by rfl) ?_
   | refine ext_assign rfl rfl (by rfl) (by rfl) ?_
   | refine ext_pick_t rfl rfl (by rfl) (by rfl) (by rfl) ?_
   | refine ext_pick_f rfl rfl (by rfl) (by rfl) (by rfl) ?_
   | (apply ext_take rfl (by rfl)
      · intro w' hS
        have hSc := hS.cells
        (try simp only [World.size_drew, World.cell?_drew] at hSc)
        go_simp
        (try simp (disch := omega) only [i64_id, u64_id, ↓IntWalk.iteOmega, Int.tdiv_eq_ediv_of_nonneg, Int.tmod_eq_emod_of_nonneg])
        try rfl)
   | refine ext_pass rfl (by rfl) ?_); simp only [Act.put, setZa, setZ0, setZ1])
  (refine ext_do rfl (by rfl) (fun K hK => ?_)
   go_simp
   go_at_call 103
   refine (groups_any ra ro rc q _ (HRW.out.ext (by first | exact Ext.drew _ | exact (Ext.drew _).trans (Ext.refl _)))).mono ?_
   rintro e W1 ⟨rfl, hx1⟩
   refine hK _ _ (Ext.trans (by first | exact Ext.drew _ | exact Ext.refl _) hx1) ?_
   clear hK K
   (try simp only [Act.put, setZa, setZ0, setZ1]))
  (refine ext_do rfl (by rfl) (fun K hK => ?_)
   go_simp
   go_at_call 104
   refine (data_any ra ro rc q _ (HRW.out.ext ((Ext.drew _).trans hx1))).mono ?_
   rintro e W2 ⟨rfl, hx2⟩
   refine hK _ _ hx2 ?_
   clear hK K
   (try simp only [Act.put, setZa, setZ0, setZ1]))
  iterate 2 ((first
   | refine ext_move rfl rfl (by rfl) (by rfl) ?_
   | refine ext_assign rfl rfl (by rfl) (by rfl) ?_
   | refine ext_pick_t rfl rfl (by rfl) (by rfl) (by rfl) ?_
   | refine ext_pick_f rfl rfl (by rfl) (by rfl) (by rfl) ?_
   | (apply ext_take rfl (by rfl)
      · intro w' hS
        have hSc := hS.cells
        (try simp only [World.size_drew, World.cell?_drew] at hSc)
        go_simp
        (try simp (disch := omega) only [i64_id])
        try rfl)
   | refine ext_pass rfl (by rfl) ?_); simp only [Act.put, setZa, setZ0, setZ1])
  refine ext_nil ?_
  go_wp2_with fail
  go_ret
  exact ⟨rfl, HXW.out.trans (((Ext.drew _).trans hx1).trans hx2)⟩
end Go.Proofs.YtjabgpejmnpamaaGreatDoor

namespace Go.Proofs.YtjabgpejmnpamaaGreatDoor
open Go.RowKit
set_option maxRecDepth 100000
theorem below8 {p : Nat → Prop} (h0 : p 0) (h1 : p 1) (h2 : p 2) (h3 : p 3) (h4 : p 4) (h5 : p 5) (h6 : p 6) (h7 : p 7) : ∀ j, j < 8 → p j
  | 0, _ => h0 | 1, _ => h1 | 2, _ => h2 | 3, _ => h3 | 4, _ => h4 | 5, _ => h5 | 6, _ => h6 | 7, _ => h7
theorem blks_of_box {w : World} {g : Nat} {cs : Array Value} {t : TypeId} (h : BoxAt w g cs t) (ls : List (List (BitVec 8))) (n : Nat) (hn : ls.length = n) (hl : ∀ i (a : i < ls.length), ls[i].length = 8 ∧ ∀ j, j < 8 → cs[8 * i + j]? = some (encB (ls[i].getD j 0#8))) : BlksAt w (.slice (some ⟨g, 0, none⟩) n n) ls := by
  subst hn
  exact ⟨g, 0, _, rfl, Nat.le_refl _, h.lt, fun i hi => ⟨(hl i hi).1, fun j hj => by rw [Nat.zero_add]; exact h.cell _ ((hl i hi).2 j hj)⟩⟩
def one8 : List (BitVec 8) := [1#8, 0#8, 0#8, 0#8, 0#8, 0#8, 0#8, 0#8]
def two8 : List (BitVec 8) := [2#8, 0#8, 0#8, 0#8, 0#8, 0#8, 0#8, 0#8]
theorem back_two : combL ((wtsL 1).getD 0 0#8) ((wtsL 1).getD 1 0#8) (rowF one8 two8 (expG 0) [1, 0]) (rowF one8 two8 (expG 1) [1, 0]) = two8 := by decide +kernel
theorem five_blk (W : World) (n : Nat) (x0 x1 x2 x3 x4 x5 x6 x7 y0 y1 y2 y3 y4 y5 y6 y7 z0 z1 z2 z3 z4 z5 z6 z7 : BitVec 8) (hn : W.heap.size = n) :
    BlksAt (W.alloc (.cells (.int .u8 0 :: .int .u8 0 :: .int .u8 0 :: .int .u8 0 :: .int .u8 0 :: .int .u8 0 :: .int .u8 0 :: .int .u8 0 :: .int .u8 0 :: .int .u8 0 :: .int .u8 0 :: .int .u8 0 :: .int .u8 0 :: .int .u8 0 :: .int .u8 0 :: .int .u8 0 :: encB x0 :: encB x1 :: encB x2 :: encB x3 :: encB x4 :: encB x5 :: encB x6 :: encB x7 :: encB y0 :: encB y1 :: encB y2 :: encB y3 :: encB y4 :: encB y5 :: encB y6 :: encB y7 :: encB z0 :: encB z1 :: encB z2 :: encB z3 :: encB z4 :: encB z5 :: encB z6 :: encB z7 :: []).toArray 76)) (.slice (some ⟨n, 0, none⟩) 5 5) [zero8, zero8, [x0, x1, x2, x3, x4, x5, x6, x7], [y0, y1, y2, y3, y4, y5, y6, y7], [z0, z1, z2, z3, z4, z5, z6, z7]] := by
  subst hn
  exact blks_of_box (BoxAt.new _ _ _) _ 5 rfl (fun i hi => match i, hi with
      | 0, _ => ⟨rfl, below8 rfl rfl rfl rfl rfl rfl rfl rfl⟩
      | 1, _ => ⟨rfl, below8 rfl rfl rfl rfl rfl rfl rfl rfl⟩
      | 2, _ => ⟨rfl, below8 rfl rfl rfl rfl rfl rfl rfl rfl⟩
      | 3, _ => ⟨rfl, below8 rfl rfl rfl rfl rfl rfl rfl rfl⟩
      | 4, _ => ⟨rfl, below8 rfl rfl rfl rfl rfl rfl rfl rfl⟩)
theorem size8u : ∀ w, (sizeOf 5).run Tryz.prog w = .ok 1 w := fun w => by kernel_rfl
theorem eq_two (w : World) : (Op.equalIn 10000 76 (.agg #[.int .u8 2, .int .u8 0, .int .u8 0, .int .u8 0, .int .u8 0, .int .u8 0, .int .u8 0, .int .u8 0]) (.agg #[.int .u8 2, .int .u8 0, .int .u8 0, .int .u8 0, .int .u8 0, .int .u8 0, .int .u8 0, .int .u8 0])).run Tryz.prog w = .ok true w := by
  have h := run_equalIn_block (P := Tryz.prog) w 9998 Tryz.underlying76 Tryz.underlying5 size8u two8 two8 rfl rfl
  rw [eqB_self] at h
  exact h
theorem five_bool (W : World) (n : Nat) (hn : W.heap.size = n) : SliceAt Value.bool (W.alloc (.cells #[.bool true, .bool true, .bool false, .bool false, .bool false] 4)) (.slice (some ⟨n, 0, none⟩) 5 5) [true, true, false, false, false] := by
  subst hn
  exact SliceAt.lit _ [true, true, false, false, false] _ _ _ rfl
set_option maxHeartbeats 4000000 in
theorem awake25_any (w : World) : Calls Tryz.prog 22 #[] w fun e w' => e = .returned (.bool true) ∧ Ext w w' := by
  go_enter Tryz.func22, Tryz.ntmps22
  have HB0 : Hid (BlksAt (w.alloc (.cells #[.int .u8 1, .int .u8 0, .int .u8 0, .int .u8 0, .int .u8 0, .int .u8 0, .int .u8 0, .int .u8 0, .int .u8 2, .int .u8 0, .int .u8 0, .int .u8 0, .int .u8 0, .int .u8 0, .int .u8 0, .int .u8 0] 76)) (.slice (some ⟨w.heap.size, 0, none⟩) 2 2) [one8, two8]) :=
    blks_of_box (BoxAt.new _ _ _) _ 2 rfl (fun i hi => match i, hi with
      | 0, _ => ⟨rfl, below8 rfl rfl rfl rfl rfl rfl rfl rfl⟩
      | 1, _ => ⟨rfl, below8 rfl rfl rfl rfl rfl rfl rfl rfl⟩)
  go_wp2_with (go_at_call 49; refine (pencode_any _ 0 2 one8 two8 _ HB0.out).mono ?_; rintro e W1 ⟨g, rfl, ho, hx1⟩; have HO := Lib.hid ho.blks; have HX1 := Lib.hid (show Ext w W1 from (Ext.alloc _ _).trans hx1); have lg : g < W1.heap.size := (by obtain ⟨_, hb, _⟩ := ho; exact hb.lt); clear ho hx1)
  have l0 : (rowF one8 two8 (expG 0) [1, 0]).length = 8 := rowF_len rfl rfl _
  have l1 : (rowF one8 two8 (expG 1) [1, 0]).length = 8 := rowF_len rfl rfl _
  have l2 : (rowF one8 two8 (expG 2) [1, 0]).length = 8 := rowF_len rfl rfl _
  have HBT := Lib.hid back_two
  generalize rowF one8 two8 (expG 0) [1, 0] = R0 at *
  generalize rowF one8 two8 (expG 1) [1, 0] = R1 at *
  generalize rowF one8 two8 (expG 2) [1, 0] = R2 at *
  obtain ⟨x0, x1, x2, x3, x4, x5, x6, x7, rfl⟩ := arr_cases l0
  obtain ⟨y0, y1, y2, y3, y4, y5, y6, y7, rfl⟩ := arr_cases l1
  obtain ⟨z0, z1, z2, z3, z4, z5, z6, z7, rfl⟩ := arr_cases l2
  clear l0 l1 l2
  have h0 : ∀ w', Ext W1 w' → (Instr.loadAt 76 (.pointer (some ⟨g, 0, none⟩))).run Tryz.prog w' = .ok (.agg #[encB x0, encB x1, encB x2, encB x3, encB x4, encB x5, encB x6, encB x7]) w' := fun w' e => (HO.out.ext e).load 0 (by simp)
  have h1 : ∀ w', Ext W1 w' → (Instr.loadAt 76 (.pointer (some ⟨g, 8, none⟩))).run Tryz.prog w' = .ok (.agg #[encB y0, encB y1, encB y2, encB y3, encB y4, encB y5, encB y6, encB y7]) w' := fun w' e => (HO.out.ext e).load 1 (by simp)
  have h2 : ∀ w', Ext W1 w' → (Instr.loadAt 76 (.pointer (some ⟨g, 16, none⟩))).run Tryz.prog w' = .ok (.agg #[encB z0, encB z1, encB z2, encB z3, encB z4, encB z5, encB z6, encB z7]) w' := fun w' e => (HO.out.ext e).load 2 (by simp)
  go_wp2_with fail
  refine wp_region_extT (.take 0 (.take 1 (.take 2 (.take 3 (.take 4 (.take 5 (.take 6 (.take 7 (.take 8 (.take 9 (.take 10 (.two 11 12 (.one 12 (.one 13 (.take 14 (.take 15 (.take 16 (.take 17 (.take 18 .done))))))) (.one 11 (.one 13 (.take 14 (.take 15 (.take 16 (.take 17 (.take 18 .done))))))))))))))))))) (by kernel_rfl) (by kernel_rfl) ?_
  iterate 4 ((first
   | refine extT_move rfl rfl (by rfl) (by rfl) ?_
   | refine extT_assign rfl rfl (by rfl) (by rfl) ?_
   | refine extT_pick_t rfl rfl (by rfl) (by rfl) (by rfl) ?_
   | refine extT_pick_f rfl rfl (by rfl) (by rfl) (by rfl) ?_
   | (apply extT_take rfl (by rfl)
      · intro w' hS
        have hSc := hS.cells
        (try simp only [World.size_drew, World.cell?_drew] at hSc)
        go_simp
        (try simp (disch := omega) only [i64_id, u64_id, ↓IntWalk.iteOmega, Int.tdiv_eq_ediv_of_nonneg, Int.tmod_eq_emod_of_nonneg])
        try rfl)
   | refine extT_pass rfl (by rfl) ?_); simp only [Act.put, setZa, setZ0, setZ1])
  (refine extT_load 76 rfl rfl (by rfl) (by rfl) h0 ?_; simp only [Act.put, setZa, setZ0, setZ1])
  iterate 2 ((first
   | refine extT_move rfl rfl (by rfl) (by rfl) ?_
   | refine extT_assign rfl rfl (by rfl) (by rfl) ?_
   | refine extT_pick_t rfl rfl (by rfl) (by rfl) (by rfl) ?_
   | refine extT_pick_f rfl rfl (by rfl) (by rfl) (by rfl) ?_
   | (apply extT_take rfl (by rfl)
      · intro w' hS
        have hSc := hS.cells
        (try simp only [World.size_drew, World.cell?_drew] at hSc)
        go_simp
        (try simp (disch := omega) only [i64_id, u64_id, ↓IntWalk.iteOmega, Int.tdiv_eq_ediv_of_nonneg, Int.tmod_eq_emod_of_nonneg])
        try rfl)
   | refine extT_pass rfl (by rfl) ?_); simp only [Act.put, setZa, setZ0, setZ1])
  (refine extT_load 76 rfl rfl (by rfl) (by rfl) h1 ?_; simp only [Act.put, setZa, setZ0, setZ1])
  iterate 2 ((first
   | refine extT_move rfl rfl (by rfl) (by rfl) ?_
   | refine extT_assign rfl rfl (by rfl) (by rfl) ?_
   | refine extT_pick_t rfl rfl (by rfl) (by rfl) (by rfl) ?_
   | refine extT_pick_f rfl rfl (by rfl) (by rfl) (by rfl) ?_
   | (apply extT_take rfl (by rfl)
      · intro w' hS
        have hSc := hS.cells
        (try simp only [World.size_drew, World.cell?_drew] at hSc)
        go_simp
        (try simp (disch := omega) only [i64_id, u64_id, ↓IntWalk.iteOmega, Int.tdiv_eq_ediv_of_nonneg, Int.tmod_eq_emod_of_nonneg])
        try rfl)
   | refine extT_pass rfl (by rfl) ?_); simp only [Act.put, setZa, setZ0, setZ1])
  (refine extT_load 76 rfl rfl (by rfl) (by rfl) h2 ?_; simp only [Act.put, setZa, setZ0, setZ1])
  refine extT_two rfl rfl (by rfl) (by rfl) (fun K hK => ?_) (fun K hK => ?_)
  go_simp
  refine hK _ _ (by first | exact Ext.alloc _ _ | exact (Ext.drew _).trans (Ext.alloc _ _) | exact (Ext.alloc _ _).trans (Ext.drew _)) ?_
  clear hK K
  (try simp only [Act.put, setZa, setZ0, setZ1])
  refine extT_do rfl (by rfl) (fun K hK => ?_)
  go_simp
  refine hK _ _ (by first | exact Ext.alloc _ _ | exact (Ext.drew _).trans (Ext.alloc _ _) | exact (Ext.alloc _ _).trans (Ext.drew _)) ?_
  clear hK K
  (try simp only [Act.put, setZa, setZ0, setZ1])
  refine extT_do rfl (by rfl) (fun K hK => ?_)
  go_simp
  go_at_call 50
  refine (decode_any _ _ zero8 zero8 [x0, x1, x2, x3, x4, x5, x6, x7] [y0, y1, y2, y3, y4, y5, y6, y7] [z0, z1, z2, z3, z4, z5, z6, z7] _ (by first | exact five_blk _ _ _ _ _ _ _ _ _ _ _ _ _ _ _ _ _ _ _ _ _ _ _ _ _ _ (by first | rfl | (simp; done)) | exact (five_blk _ _ _ _ _ _ _ _ _ _ _ _ _ _ _ _ _ _ _ _ _ _ _ _ _ _ (by first | rfl | (simp; done))).ext (Ext.alloc _ _) | exact (five_blk _ _ _ _ _ _ _ _ _ _ _ _ _ _ _ _ _ _ _ _ _ _ _ _ _ _ (by first | rfl | (simp; done))).ext (Ext.drew _) | exact (five_blk _ _ _ _ _ _ _ _ _ _ _ _ _ _ _ _ _ _ _ _ _ _ _ _ _ _ (by first | rfl | (simp; done))).ext ((Ext.alloc _ _).trans (Ext.drew _))) (by first | exact five_bool _ _ (by first | rfl | (simp; done)) | exact (five_bool _ _ (by first | rfl | (simp; done))).ext (Ext.alloc _ _) | exact (five_bool _ _ (by first | rfl | (simp; done))).ext (Ext.drew _) | exact (five_bool _ _ (by first | rfl | (simp; done))).ext ((Ext.alloc _ _).trans (Ext.drew _)))).mono ?_
  rintro e W2 ⟨g2, c2, rfl, lg2, hc2, hx2⟩
  refine hK _ _ hx2 ?_
  clear hK K
  (try simp only [Act.put, setZa, setZ0, setZ1])
  iterate 5 ((first
   | refine extT_move rfl rfl (by rfl) (by rfl) ?_
   | refine extT_assign rfl rfl (by rfl) (by rfl) ?_
   | refine extT_pick_t rfl rfl (by rfl) (by rfl) (by rfl) ?_
   | refine extT_pick_f rfl rfl (by rfl) (by rfl) (by rfl) ?_
   | (apply extT_take rfl (by rfl)
      · intro w' hS
        have hSc := hS.cells
        (try simp only [World.size_drew, World.cell?_drew] at hSc)
        go_simp
        (try simp (disch := omega) only [i64_id, u64_id, ↓IntWalk.iteOmega, Int.tdiv_eq_ediv_of_nonneg, Int.tmod_eq_emod_of_nonneg])
        try rfl)
   | refine extT_pass rfl (by rfl) ?_); simp only [Act.put, setZa, setZ0, setZ1])
  refine extT_nil ?_
  skip
  rotate_left
  go_simp
  refine hK _ _ (by first | exact Ext.alloc _ _ | exact (Ext.drew _).trans (Ext.alloc _ _) | exact (Ext.alloc _ _).trans (Ext.drew _)) ?_
  clear hK K
  (try simp only [Act.put, setZa, setZ0, setZ1])
  refine extT_do rfl (by rfl) (fun K hK => ?_)
  go_simp
  refine hK _ _ (by first | exact Ext.alloc _ _ | exact (Ext.drew _).trans (Ext.alloc _ _) | exact (Ext.alloc _ _).trans (Ext.drew _)) ?_
  clear hK K
  (try simp only [Act.put, setZa, setZ0, setZ1])
  refine extT_do rfl (by rfl) (fun K hK => ?_)
  go_simp
  go_at_call 50
  refine (decode_any _ _ zero8 zero8 [x0, x1, x2, x3, x4, x5, x6, x7] [y0, y1, y2, y3, y4, y5, y6, y7] [z0, z1, z2, z3, z4, z5, z6, z7] _ (by first | exact five_blk _ _ _ _ _ _ _ _ _ _ _ _ _ _ _ _ _ _ _ _ _ _ _ _ _ _ (by first | rfl | (simp; done)) | exact (five_blk _ _ _ _ _ _ _ _ _ _ _ _ _ _ _ _ _ _ _ _ _ _ _ _ _ _ (by first | rfl | (simp; done))).ext (Ext.alloc _ _) | exact (five_blk _ _ _ _ _ _ _ _ _ _ _ _ _ _ _ _ _ _ _ _ _ _ _ _ _ _ (by first | rfl | (simp; done))).ext (Ext.drew _) | exact (five_blk _ _ _ _ _ _ _ _ _ _ _ _ _ _ _ _ _ _ _ _ _ _ _ _ _ _ (by first | rfl | (simp; done))).ext ((Ext.alloc _ _).trans (Ext.drew _))) (by first | exact five_bool _ _ (by first | rfl | (simp; done)) | exact (five_bool _ _ (by first | rfl | (simp; done))).ext (Ext.alloc _ _) | exact (five_bool _ _ (by first | rfl | (simp; done))).ext (Ext.drew _) | exact (five_bool _ _ (by first | rfl | (simp; done))).ext ((Ext.alloc _ _).trans (Ext.drew _)))).mono ?_
  rintro e W2 ⟨g2, c2, rfl, lg2, hc2, hx2⟩
  refine hK _ _ hx2 ?_
  clear hK K
  (try simp only [Act.put, setZa, setZ0, setZ1])
  iterate 5 ((first
   | refine extT_move rfl rfl (by rfl) (by rfl) ?_
   | refine extT_assign rfl rfl (by rfl) (by rfl) ?_
   | refine extT_pick_t rfl rfl (by rfl) (by rfl) (by rfl) ?_
   | refine extT_pick_f rfl rfl (by rfl) (by rfl) (by rfl) ?_
   | (apply extT_take rfl (by rfl)
      · intro w' hS
        have hSc := hS.cells
        (try simp only [World.size_drew, World.cell?_drew] at hSc)
        go_simp
        (try simp (disch := omega) only [i64_id, u64_id, ↓IntWalk.iteOmega, Int.tdiv_eq_ediv_of_nonneg, Int.tmod_eq_emod_of_nonneg])
        try rfl)
   | refine extT_pass rfl (by rfl) ?_); simp only [Act.put, setZa, setZ0, setZ1])
  refine extT_nil ?_
  skip
  rotate_left
  all_goals
    have hx : Ext W1 W2 := (Ext.alloc _ _).trans ((Ext.alloc _ _).trans ((Ext.drew _).trans hx2))
    have HX2 := Lib.hid (HX1.out.trans hx)
    rw [HBT.out] at hc2
    have d0 : W2.cell? ⟨g2, 8, none⟩ = some (.int .u8 2) := hc2 0 (by decide)
    have d1 : W2.cell? ⟨g2, 9, none⟩ = some (.int .u8 0) := hc2 1 (by decide)
    have d2 : W2.cell? ⟨g2, 10, none⟩ = some (.int .u8 0) := hc2 2 (by decide)
    have d3 : W2.cell? ⟨g2, 11, none⟩ = some (.int .u8 0) := hc2 3 (by decide)
    have d4 : W2.cell? ⟨g2, 12, none⟩ = some (.int .u8 0) := hc2 4 (by decide)
    have d5 : W2.cell? ⟨g2, 13, none⟩ = some (.int .u8 0) := hc2 5 (by decide)
    have d6 : W2.cell? ⟨g2, 14, none⟩ = some (.int .u8 0) := hc2 6 (by decide)
    have d7 : W2.cell? ⟨g2, 15, none⟩ = some (.int .u8 0) := hc2 7 (by decide)
    have hEq := eq_two
    clear hx2 hx hc2 h0 h1 h2 HO HX1 HB0
    go_wp2_with first | (go_at_call 51; refine (choose54_any _).mono ?_; rintro e W3 ⟨rv, rfl, hR, hx3⟩; obtain ⟨ra, ro, rc, q, rfl, hrows⟩ := rows54_of hR.rows; have HR := Lib.hid hrows; have HX3 := Lib.hid (HX2.out.trans hx3); have e0 := (Below.cell hx3 (p := ⟨g2, 8, none⟩) lg2).trans d0; have e1 := (Below.cell hx3 (p := ⟨g2, 9, none⟩) lg2).trans d1; have e2 := (Below.cell hx3 (p := ⟨g2, 10, none⟩) lg2).trans d2; have e3 := (Below.cell hx3 (p := ⟨g2, 11, none⟩) lg2).trans d3; have e4 := (Below.cell hx3 (p := ⟨g2, 12, none⟩) lg2).trans d4; have e5 := (Below.cell hx3 (p := ⟨g2, 13, none⟩) lg2).trans d5; have e6 := (Below.cell hx3 (p := ⟨g2, 14, none⟩) lg2).trans d6; have e7 := (Below.cell hx3 (p := ⟨g2, 15, none⟩) lg2).trans d7; have lg3 := Nat.lt_of_lt_of_le lg2 hx3.size; clear hR hx3 hrows d0 d1 d2 d3 d4 d5 d6 d7) | (refine wpList_store_box 117 _ _ rfl (by rfl) rfl rfl (BoxAt.new W3 #[.int .i64 0, .slice none 0 0] 117) rfl (by kernel_rfl) (by simp [Value.oneCell']) ?_; intro W4 hS; have HS := Lib.hid hS; have hx4 : Ext W3 W4 := hS.bel (Ext.alloc _ _) (Nat.le_refl _); have HX4 := Lib.hid hx4; have f0 := (Below.cell hx4 (p := ⟨g2, 8, none⟩) lg3).trans e0; have f1 := (Below.cell hx4 (p := ⟨g2, 9, none⟩) lg3).trans e1; have f2 := (Below.cell hx4 (p := ⟨g2, 10, none⟩) lg3).trans e2; have f3 := (Below.cell hx4 (p := ⟨g2, 11, none⟩) lg3).trans e3; have f4 := (Below.cell hx4 (p := ⟨g2, 12, none⟩) lg3).trans e4; have f5 := (Below.cell hx4 (p := ⟨g2, 13, none⟩) lg3).trans e5; have f6 := (Below.cell hx4 (p := ⟨g2, 14, none⟩) lg3).trans e6; have f7 := (Below.cell hx4 (p := ⟨g2, 15, none⟩) lg3).trans e7; have lg4 := Nat.lt_of_lt_of_le lg3 hx4.size; have b0 := hS.box.cell 0 (v := .int .i64 5) rfl; have b1 := hS.box.cell 1 (v := .slice (some ⟨ra, ro, none⟩) 5 rc) rfl; have lb := hS.box.lt; clear hS hx4 e0 e1 e2 e3 e4 e5 e6 e7) | (go_at_call 52; refine (slots_any ra ro rc q _ (HR.out.ext HX4.out)).mono ?_; rintro e W5 ⟨rfl, hx5⟩)
    go_ret
    exact ⟨rfl, HX3.out.trans (HX4.out.trans hx5)⟩
end Go.Proofs.YtjabgpejmnpamaaGreatDoor

namespace Go.Proofs.YtjabgpejmnpamaaGreatDoor
open Go.RowKit Go.Shelf
set_option maxRecDepth 100000
abbrev dvC (D q ce g c : Nat) (t : Int) : Array Value := drC D (.slice (some ⟨q, 0, none⟩) 4 ce) g c t
set_option maxHeartbeats 1000000 in
theorem vstate_any (R D q ce g c : Nat) (t : Int) (w : World) (h : BoxAt w R (dvC D q ce g c t) 144) :
    Calls Tryz.prog 64 #[.pointer (some ⟨R, 0, none⟩)] w fun e w' => e = .returned (.int .i64 0) ∧ w = w' := by
  have c5 := h.cell 5 (v := .int .i64 0) rfl
  have hl := h.lt
  clear h
  go_enter Tryz.func64, Tryz.ntmps64
  go_wp2
  go_ret
  exact ⟨rfl, rfl⟩
set_option maxHeartbeats 1000000 in
theorem vhas_any (R D q ce g c : Nat) (t : Int) (w : World) (h : BoxAt w R (dvC D q ce g c t) 144) :
    Calls Tryz.prog 65 #[.pointer (some ⟨R, 0, none⟩), .int .i64 1] w fun e w' => e = .returned (.bool true) ∧ w = w' := by
  have c2 := h.cell 2 (v := .slice (some ⟨q, 0, none⟩) 4 ce) rfl
  have hl := h.lt
  clear h
  go_enter Tryz.func65, Tryz.ntmps65
  go_wp2
  go_ret
  exact ⟨rfl, rfl⟩
set_option maxHeartbeats 1000000 in
theorem vsize_any (B R D P C q ce g c : Nat) (t : Int) (w : World) (h : BoxAt w R (dvC D q ce g c t) 144) (hd : Dsk B w D P C) :
    Calls Tryz.prog 168 #[.pointer (some ⟨R, 0, none⟩)] w fun e w' => e = .returned (.int .i64 6) ∧ Ext w w' := by
  have HD := Lib.hid hd
  have c0 := h.cell 0 (v := .pointer (some ⟨D, 0, none⟩)) rfl
  have hl := h.lt
  clear h hd
  go_enter Tryz.func168, Tryz.ntmps168
  go_wp2_with first | (go_at_call 109; refine (dgeo_any B D P C _ HD.out).mono ?_; rintro e W1 ⟨rfl, hx1⟩; have HX1 := Lib.hid hx1; clear hx1) | (go_at_call 110; refine (sband_any _).mono ?_; rintro e W2 ⟨rfl, hx2⟩; have HX2 := Lib.hid hx2; clear hx2)
  go_ret
  exact ⟨rfl, HX1.out.trans HX2.out⟩
set_option maxHeartbeats 1000000 in
theorem vopen_any (B R D P C q ce g c : Nat) (t : Int) (w : World) (h : BoxAt w R (dvC D q ce g c t) 144) (hd : Dsk B w D P C) (hb : Bnd w g c) :
    Calls Tryz.prog 178 #[.pointer (some ⟨R, 0, none⟩), .int .i64 (-1)] w fun e w' => e = .returned (.tuple #[.int .i64 0, .int .i64 0]) ∧ Ext w w' := by
  have HD := Lib.hid hd
  have HR := Lib.hid h
  have HB := Lib.hid hb
  have c3 := h.cell 3 (v := .slice (some ⟨g, 0, none⟩) 5 c) rfl
  have hl := h.lt
  clear h hd hb
  go_enter Tryz.func178, Tryz.ntmps178
  go_wp2_with first | (go_at_call 218; refine (bclone_any g c _ HB.out).mono ?_; rintro e W1 ⟨g', c', rfl, hb1, _, hx1⟩; have HB1 := Lib.hid hb1; have HX1 := Lib.hid hx1; clear hb1 hx1) | (go_at_call 168; refine (vsize_any B R D P C q ce g c t _ (HR.out.ext HX1.out) (HD.out.ext HX1.out)).mono ?_; rintro e W2 ⟨rfl, hx2⟩; have HX2 := Lib.hid hx2; clear hx2) | (go_at_call 169; refine (bopen_any g' c' _ (HB1.out.ext HX2.out)).mono ?_; rintro e W3 ⟨rfl, hx3⟩; have HX3 := Lib.hid hx3; clear hx3) | (go_at_call 219; refine (least_any g' c' _ ((HB1.out.ext HX2.out).ext HX3.out)).mono ?_; rintro e W4 ⟨rfl, hx4⟩; have HX4 := Lib.hid hx4; clear hx4)
  go_ret2
  exact ⟨rfl, HX1.out.trans (HX2.out.trans (HX3.out.trans HX4.out))⟩
def Ent (w : World) (q : Nat) : Prop := ∃ EA, BoxAt w q EA 154 ∧ EA.toList.take 12 = entL 4
theorem Ent.ext {w w' : World} {q : Nat} (h : Ent w q) (e : Ext w w') : Ent w' q := by
  obtain ⟨EA, h1, h2⟩ := h
  exact ⟨EA, h1.ext e, h2⟩
theorem Ent.chg {B : Nat} {T : List TypeId} {w w' : World} {q : Nat} (h : Ent w q) (e : Chg B T w w') (ht : 154 ∉ T) : Ent w' q := by
  obtain ⟨EA, h1, h2⟩ := h
  exact ⟨EA, h1.chg e ht, h2⟩
theorem ent_get {EA : Array Value} (h : EA.toList.take 12 = entL 4) (j : Nat) (hj : j < 12) : EA[j]? = (entL 4)[j]? := by
  rw [← h, List.getElem?_take_of_lt hj, Array.getElem?_toList]
theorem ent_size {EA : Array Value} (h : EA.toList.take 12 = entL 4) : 12 ≤ EA.size := by
  have := congrArg List.length h
  rw [List.length_take] at this
  have e : (entL 4).length = 12 := rfl
  simp at this
  omega
theorem ent_put {EA : Array Value} (h : EA.toList.take 12 = entL 4) : putL EA 3 [.int .i64 0, .int .u64 0, .int .i64 (-1)] = EA := by
  simp only [putL]
  rw [set_eq (ent_get h 3 (by decide)), set_eq (ent_get h 4 (by decide)), set_eq (ent_get h 5 (by decide))]
set_option maxHeartbeats 2000000 in
theorem vunlink_any (B R D q ce g c : Nat) (t : Int) (w : World) (h : BoxAt w R (dvC D q ce g c t) 144) (he : Ent w q) (hq : B ≤ q) (hB : B ≤ w.heap.size) :
    Calls Tryz.prog 174 #[.pointer (some ⟨R, 0, none⟩), .int .i64 1] w fun e w' => e = .returned (.tuple #[]) ∧ Ent w' q ∧ Chg B [154] w w' := by
  obtain ⟨EA, he1, he2⟩ := he
  have HE := Lib.hid he1
  have HE2 := Lib.hid he2
  have c2 := h.cell 2 (v := .slice (some ⟨q, 0, none⟩) 4 ce) rfl
  have hl := h.lt
  have e5 := he1.cell 5 (v := .int .i64 (-1)) (ent_get he2 5 (by decide))
  have le := he1.lt
  clear h he1 he2
  go_enter Tryz.func174, Tryz.ntmps174
  go_wp2_with (refine wpList_store_part 154 _ _ rfl (by rfl) (i := 3) (cells := #[.int .i64 0, .int .u64 0, .int .i64 (-1)]) rfl rfl HE.out (by have := ent_size HE2.out; simp; omega) (by kernel_rfl) (by simp [Value.oneCell']) ?_; intro w3 hS; have HS := Lib.hid hS; clear hS)
  go_end0
  have hs := HS.out
  rw [ent_put HE2.out] at hs
  exact ⟨rfl, ⟨EA, hs.box, HE2.out⟩, (Chg.refl _ _ _).stored HE.out hs (by simp) hq⟩
abbrev xV : Value := .agg #[.int .i64 1, .int .i64 1, .int .u64 5, .int .u8 9, .int .u8 0, .int .u8 0, .int .u8 0, .int .u8 0, .int .u8 0, .int .u8 0, .int .u8 0]
def xL : List (BitVec 8) := seal8 (pln 1 1 5#64 [9#8, 0#8, 0#8, 0#8, 0#8, 0#8, 0#8, 0#8] 1#64)
theorem xL_len : xL.length = 37 := by decide +kernel
theorem xenc_any (w : World) : Calls Tryz.prog 179 #[xV, .int .u64 1] w fun e w' => ∃ v', e = .returned (.tuple #[v', .int .i64 0]) ∧ OwnB w' w.heap.size v' xL ∧ Ext w w' :=
  encode_yes 1 1 5#64 9#8 0#8 0#8 0#8 0#8 0#8 0#8 0#8 1#64 w (by decide)
theorem xdec_facts : (dS xL = dC xL) ∧ dK xL = 1 ∧ dB xL = 1 ∧ dV xL = 5#64 ∧ dX xL 0 = 9#8 ∧ dX xL 1 = 0#8 ∧ dX xL 2 = 0#8 ∧ dX xL 3 = 0#8 ∧ dX xL 4 = 0#8 ∧ dX xL 5 = 0#8 ∧ dX xL 6 = 0#8 ∧ dX xL 7 = 0#8 ∧ dT xL = 1#64 := by decide +kernel
theorem xdec_any (v : Value) (w : World) (h : SliceAt encB w v xL) : Calls Tryz.prog 121 #[v] w fun e w' => e = .returned (.tuple #[xV, .int .u64 1, .int .i64 0]) ∧ Ext w w' := by
  obtain ⟨f0, f1, f2, f3, f4, f5, f6, f7, f8, f9, f10, f11, f12⟩ := xdec_facts
  have hd := decode_yes v xL w h xL_len f0 (by rw [f1, f2, f3, dD, f4, f5, f6, f7, f8, f9, f10, f11]; decide)
  rw [f1, f2, f3, f4, f5, f6, f7, f8, f9, f10, f11, f12] at hd
  exact hd
end Go.Proofs.YtjabgpejmnpamaaGreatDoor
