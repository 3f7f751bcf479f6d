/-
  Part 40 of the proof.
-/
import Derived.Test.YtjabgpejmnpamaaGreatDoorY38
import Derived.Test.YtjabgpejmnpamaaGreatDoorY30
set_option linter.unusedVariables false
namespace Go.Proofs.YtjabgpejmnpamaaGreatDoor
open Go.RowKit
set_option maxRecDepth 100000 in
set_option maxHeartbeats 2000000 in
theorem rsame_any (r : Lg.Rec) (wv mv nv wv' mv' nv' : Value) (w : World) (hl : r.ws.length ≤ 64 ∧ r.ms.length ≤ 64 ∧ r.note.length ≤ 256) (h : RecIn w wv mv nv r) (h' : RecIn w wv' mv' nv' r) :
    Calls Tryz.prog 48 #[recV r wv mv nv, recV r wv' mv' nv'] w fun e w' => e = .returned (.bool true) ∧ Ext w w' := by
  obtain ⟨a1, c1, a2, c2, a3, c3, rfl, rfl, rfl⟩ := h.shape
  obtain ⟨a1', c1', a2', c2', a3', c3', rfl, rfl, rfl⟩ := h'.shape
  obtain ⟨hl1, hl2, hl3⟩ := hl
  obtain ⟨n1, h1⟩ : ∃ n, r.ws.length = n := ⟨_, rfl⟩
  obtain ⟨n2, h2⟩ : ∃ n, r.ms.length = n := ⟨_, rfl⟩
  obtain ⟨n3, h3⟩ : ∃ n, r.note.length = n := ⟨_, rfl⟩
  have H1 := Lib.hid h1
  have H2 := Lib.hid h2
  have HR := Lib.hid h
  have HR' := Lib.hid h'
  rw [h1, h2, h3] at HR HR' ⊢
  rw [h1] at hl1
  rw [h2] at hl2
  clear h h' h1 h2 h3 hl3
  obtain ⟨gen, seq, ws, ms, note⟩ := r
  simp only at H1 H2
  have HXa : Hid (Ext w ((w.alloc (.cells #[encU gen, encU seq, .slice a1 n1 c1, .slice a2 n2 c2, .slice a3 n3 c3] 52)).alloc (.cells #[encU gen, encU seq, .slice a1' n1 c1', .slice a2' n2 c2', .slice a3' n3 c3'] 52))) := (Ext.alloc _ _).trans (Ext.alloc _ _)
  have HB1 : Hid (BoxAt ((w.alloc (.cells #[encU gen, encU seq, .slice a1 n1 c1, .slice a2 n2 c2, .slice a3 n3 c3] 52)).alloc (.cells #[encU gen, encU seq, .slice a1' n1 c1', .slice a2' n2 c2', .slice a3' n3 c3'] 52)) w.heap.size #[encU gen, encU seq, .slice a1 n1 c1, .slice a2 n2 c2, .slice a3 n3 c3] 52) := (BoxAt.new _ _ _).ext (Ext.alloc _ _)
  have HB2 : Hid (BoxAt ((w.alloc (.cells #[encU gen, encU seq, .slice a1 n1 c1, .slice a2 n2 c2, .slice a3 n3 c3] 52)).alloc (.cells #[encU gen, encU seq, .slice a1' n1 c1', .slice a2' n2 c2', .slice a3' n3 c3'] 52)) (w.heap.size + 1) #[encU gen, encU seq, .slice a1' n1 c1', .slice a2' n2 c2', .slice a3' n3 c3'] 52) := by
    have := BoxAt.new (w.alloc (.cells #[encU gen, encU seq, .slice a1 n1 c1, .slice a2 n2 c2, .slice a3 n3 c3] 52)) #[encU gen, encU seq, .slice a1' n1 c1', .slice a2' n2 c2', .slice a3' n3 c3'] 52
    rwa [World.size_alloc] at this
  go_enter Tryz.func48, Tryz.ntmps48
  go_upto_region 1 with fail
  generalize (w.alloc (.cells #[encU gen, encU seq, .slice a1 n1 c1, .slice a2 n2 c2, .slice a3 n3 c3] 52)).alloc (.cells #[encU gen, encU seq, .slice a1' n1 c1', .slice a2' n2 c2', .slice a3' n3 c3'] 52) = w1 at *
  have s1 := run_str (P := Tryz.prog) Tryz.underlying47 Tryz.underlying5 Tryz.underlying9 w1 _ _ (HR.out.note.ext HXa.out)
  have s2 := run_str (P := Tryz.prog) Tryz.underlying47 Tryz.underlying5 Tryz.underlying9 w1 _ _ (HR'.out.note.ext HXa.out)
  have x0 := HB1.out.cell 0 (v := encU gen) rfl
  have x1 := HB1.out.cell 1 (v := encU seq) rfl
  have x2 := HB1.out.cell 2 (v := .slice a1 n1 c1) rfl
  have x3 := HB1.out.cell 3 (v := .slice a2 n2 c2) rfl
  have x4 := HB1.out.cell 4 (v := .slice a3 n3 c3) rfl
  have y0 := HB2.out.cell 0 (v := encU gen) rfl
  have y1 := HB2.out.cell 1 (v := encU seq) rfl
  have y2 := HB2.out.cell 2 (v := .slice a1' n1 c1') rfl
  have y3 := HB2.out.cell 3 (v := .slice a2' n2 c2') rfl
  have y4 := HB2.out.cell 4 (v := .slice a3' n3 c3') rfl
  have m1 := HB1.out.lt
  have m2 := HB2.out.lt
  go_wp2_with fail
  clear s1 s2 x0 x1 x4 y0 y1 y4
  go_loopw [5] (fun it wr => ∃ i : Nat, i ≤ n1 ∧ it = .int .i64 i ∧ Hid (Ext w1 wr)) (fun it _ => n1 - (intOf it).toNat)
  case atStart => exact ⟨0, Nat.zero_le _, rfl, Lib.hid (Ext.refl _)⟩
  case round =>
    obtain ⟨i, hi, rfl, HX⟩ := hrel
    have z2 := (HX.out.cell _ _ m1).trans x2
    have z2' := (HX.out.cell _ _ m2).trans y2
    have q1 := Nat.lt_of_lt_of_le m1 HX.out.size
    have q2 := Nat.lt_of_lt_of_le m2 HX.out.size
    by_cases hlt : i < n1
    · have hin : (i : Int) < (n1 : Int) := by omega
      have hil : i < ws.length := by rw [H1.out]; exact hlt
      obtain ⟨b, off, rfl, hb, hr, _⟩ := (HR.out.ws.ext (HXa.out.trans HX.out)).pw i hil
      obtain ⟨b', off', rfl, hb', hr', _⟩ := (HR'.out.ws.ext (HXa.out.trans HX.out)).pw i hil
      have hEq := fun w => run_eq_pw ws[i] w
      have HA := Lib.hid (fun (w' : World) (e : Ext wr w') => pw_load (x := ws[i]) (w := w') (b := b) (o := off + i * 11) (fun j u hj => (e.cell b _ hb).trans (hr j u hj)))
      have HA' := Lib.hid (fun (w' : World) (e : Ext wr w') => pw_load (x := ws[i]) (w := w') (b := b') (o := off' + i * 11) (fun j u hj => (e.cell b' _ hb').trans (hr' j u hj)))
      generalize ws[i] = x at *
      clear hr hr'
      go_wp2_with fail
      refine wp_region_ext [(0, true), (1, true), (2, true), (3, true), (4, true), (5, true), (6, true), (7, true), (8, true), (9, true), (10, true)] (by kernel_rfl) (by kernel_rfl) ?_
      iterate 4 ((first
       | refine ext_move rfl rfl (by rfl) (by rfl) ?_
       | refine ext_assign rfl rfl (by rfl) (by rfl) ?_
       | refine ext_pick_t rfl rfl (by rfl) (by rfl) (by rfl) ?_
       | refine ext_pick_f rfl rfl (by rfl) (by rfl) (by rfl) ?_
       | (apply ext_take rfl (by rfl)
          · intro w' hS
            have hSc := hS.cells
            (try simp only [World.size_drew, World.cell?_drew] at hSc)
            go_simp
            (try simp (disch := omega) only [i64_id, u64_id, ↓IntWalk.iteOmega, Int.tdiv_eq_ediv_of_nonneg, Int.tmod_eq_emod_of_nonneg])
            try rfl)
       | refine ext_pass rfl (by rfl) ?_); simp only [Act.put, setZa, setZ0, setZ1])
      (refine ext_load 94 rfl (by rfl) rfl (by rfl) (fun w' hS => HA.out w' hS) ?_; simp only [Act.put, setZa, setZ0, setZ1])
      iterate 4 ((first
       | refine ext_move rfl rfl (by rfl) (by rfl) ?_
       | refine ext_assign rfl rfl (by rfl) (by rfl) ?_
       | refine ext_pick_t rfl rfl (by rfl) (by rfl) (by rfl) ?_
       | refine ext_pick_f rfl rfl (by rfl) (by rfl) (by rfl) ?_
       | (apply ext_take rfl (by rfl)
          · intro w' hS
            have hSc := hS.cells
            (try simp only [World.size_drew, World.cell?_drew] at hSc)
            go_simp
            (try simp (disch := omega) only [i64_id, u64_id, ↓IntWalk.iteOmega, Int.tdiv_eq_ediv_of_nonneg, Int.tmod_eq_emod_of_nonneg])
            try rfl)
       | refine ext_pass rfl (by rfl) ?_); simp only [Act.put, setZa, setZ0, setZ1])
      (refine ext_load 94 rfl (by rfl) rfl (by rfl) (fun w' hS => HA'.out w' hS) ?_; simp only [Act.put, setZa, setZ0, setZ1])
      iterate 1 ((first
       | refine ext_move rfl rfl (by rfl) (by rfl) ?_
       | refine ext_assign rfl rfl (by rfl) (by rfl) ?_
       | refine ext_pick_t rfl rfl (by rfl) (by rfl) (by rfl) ?_
       | refine ext_pick_f rfl rfl (by rfl) (by rfl) (by rfl) ?_
       | (apply ext_take rfl (by rfl)
          · intro w' hS
            have hSc := hS.cells
            (try simp only [World.size_drew, World.cell?_drew] at hSc)
            go_simp
            (try simp (disch := omega) only [i64_id, u64_id, ↓IntWalk.iteOmega, Int.tdiv_eq_ediv_of_nonneg, Int.tmod_eq_emod_of_nonneg])
            try rfl)
       | refine ext_pass rfl (by rfl) ?_); simp only [Act.put, setZa, setZ0, setZ1])
      refine ext_nil ?_
      go_wp2_with fail
      go_roundw
      case rel => exact ⟨i + 1, by omega, by go_num, HX.out.trans (Ext.drew _)⟩
      case measure => simp [intOf]; omega
    · have hin : i = n1 := by omega
      subst hin
      have hin2 : ¬ ((i : Int) < (i : Int)) := by omega
      have z3 := (HX.out.cell _ _ m1).trans x3
      have z3' := (HX.out.cell _ _ m2).trans y3
      have HX2 : Hid (Ext w wr) := HXa.out.trans HX.out
      clear x2 x3 y2 y3 m1 m2 HXa HX
      go_wp2_with fail
      generalize wr = wo at *
      clear z2 z2'
      go_loopw [6] (fun it wr => ∃ i : Nat, i ≤ n2 ∧ it = .int .i64 i ∧ Hid (Ext wo wr)) (fun it _ => n2 - (intOf it).toNat)
      case atStart => exact ⟨0, Nat.zero_le _, rfl, Lib.hid (Ext.refl _)⟩
      case round =>
        obtain ⟨j, hj, rfl, HX⟩ := hrel
        have z4 := (HX.out.cell _ _ q1).trans z3
        have z4' := (HX.out.cell _ _ q2).trans z3'
        have q3 := Nat.lt_of_lt_of_le q1 HX.out.size
        have q4 := Nat.lt_of_lt_of_le q2 HX.out.size
        by_cases hlt : j < n2
        · have hin : (j : Int) < (n2 : Int) := by omega
          have hil : j < ms.length := by rw [H2.out]; exact hlt
          obtain ⟨b, off, rfl, hb, hr⟩ := (HR.out.ms.ext (HX2.out.trans HX.out)).mv j hil
          obtain ⟨b', off', rfl, hb', hr'⟩ := (HR'.out.ms.ext (HX2.out.trans HX.out)).mv j hil
          have hEq := fun w => run_eq_mv ms[j] w
          have HA := Lib.hid (fun (w' : World) (e : Ext wr w') => mv_load (x := ms[j]) (w := w') (b := b) (o := off + j * 4) (fun k u hk => (e.cell b _ hb).trans (hr k u hk)))
          have HA' := Lib.hid (fun (w' : World) (e : Ext wr w') => mv_load (x := ms[j]) (w := w') (b := b') (o := off' + j * 4) (fun k u hk => (e.cell b' _ hb').trans (hr' k u hk)))
          generalize ms[j] = x at *
          clear hr hr'
          go_wp2_with fail
          refine wp_region_ext [(0, true), (1, true), (2, true), (3, true), (4, true), (5, true), (6, true), (7, true), (8, true), (9, true), (10, true)] (by kernel_rfl) (by kernel_rfl) ?_
          iterate 4 ((first
           | refine ext_move rfl rfl (by rfl) (by rfl) ?_
           | refine ext_assign rfl rfl (by rfl) (by rfl) ?_
           | refine ext_pick_t rfl rfl (by rfl) (by rfl) (by rfl) ?_
           | refine ext_pick_f rfl rfl (by rfl) (by rfl) (by rfl) ?_
           | (apply ext_take rfl (by rfl)
              · intro w' hS
                have hSc := hS.cells
                (try simp only [World.size_drew, World.cell?_drew] at hSc)
                go_simp
                (try simp (disch := omega) only [i64_id, u64_id, ↓IntWalk.iteOmega, Int.tdiv_eq_ediv_of_nonneg, Int.tmod_eq_emod_of_nonneg])
                try rfl)
           | refine ext_pass rfl (by rfl) ?_); simp only [Act.put, setZa, setZ0, setZ1])
          (refine ext_load 98 rfl (by rfl) rfl (by rfl) (fun w' hS => HA.out w' hS) ?_; simp only [Act.put, setZa, setZ0, setZ1])
          iterate 4 ((first
           | refine ext_move rfl rfl (by rfl) (by rfl) ?_
           | refine ext_assign rfl rfl (by rfl) (by rfl) ?_
           | refine ext_pick_t rfl rfl (by rfl) (by rfl) (by rfl) ?_
           | refine ext_pick_f rfl rfl (by rfl) (by rfl) (by rfl) ?_
           | (apply ext_take rfl (by rfl)
              · intro w' hS
                have hSc := hS.cells
                (try simp only [World.size_drew, World.cell?_drew] at hSc)
                go_simp
                (try simp (disch := omega) only [i64_id, u64_id, ↓IntWalk.iteOmega, Int.tdiv_eq_ediv_of_nonneg, Int.tmod_eq_emod_of_nonneg])
                try rfl)
           | refine ext_pass rfl (by rfl) ?_); simp only [Act.put, setZa, setZ0, setZ1])
          (refine ext_load 98 rfl (by rfl) rfl (by rfl) (fun w' hS => HA'.out w' hS) ?_; simp only [Act.put, setZa, setZ0, setZ1])
          iterate 1 ((first
           | refine ext_move rfl rfl (by rfl) (by rfl) ?_
           | refine ext_assign rfl rfl (by rfl) (by rfl) ?_
           | refine ext_pick_t rfl rfl (by rfl) (by rfl) (by rfl) ?_
           | refine ext_pick_f rfl rfl (by rfl) (by rfl) (by rfl) ?_
           | (apply ext_take rfl (by rfl)
              · intro w' hS
                have hSc := hS.cells
                (try simp only [World.size_drew, World.cell?_drew] at hSc)
                go_simp
                (try simp (disch := omega) only [i64_id, u64_id, ↓IntWalk.iteOmega, Int.tdiv_eq_ediv_of_nonneg, Int.tmod_eq_emod_of_nonneg])
                try rfl)
           | refine ext_pass rfl (by rfl) ?_); simp only [Act.put, setZa, setZ0, setZ1])
          refine ext_nil ?_
          go_wp2_with fail
          go_roundw
          case rel => exact ⟨j + 1, by omega, by go_num, HX.out.trans (Ext.drew _)⟩
          case measure => simp [intOf]; omega
        · have hin : j = n2 := by omega
          subst hin
          have hin2 : ¬ ((j : Int) < (j : Int)) := by omega
          go_wp2_with fail
          go_ret
          exact ⟨rfl, HX2.out.trans HX.out⟩
set_option maxRecDepth 100000 in
set_option maxHeartbeats 2000000 in
theorem sameall_any (gen : BitVec 64) (l : List Lg.Rec) (v v' : Value) (w : World) (hok : LogOk gen l) (h : SliceR PatR w v l) (h' : SliceR PatR w v' l) :
    Calls Tryz.prog 18 #[v, v'] w fun e w' => e = .returned (.bool true) ∧ Ext w w' := by
  obtain ⟨a1, c1, rfl⟩ := h.shape
  obtain ⟨a2, c2, rfl⟩ := h'.shape
  obtain ⟨n, hn⟩ : ∃ n, l.length = n := ⟨_, rfl⟩
  have HN := Lib.hid hn
  have HS := Lib.hid h
  have HS' := Lib.hid h'
  have HOK := Lib.hid hok
  have hn6 : n ≤ 6 := by rw [← hn]; exact hok.1
  rw [hn] at HS HS' ⊢
  clear h h' hok hn
  go_enter Tryz.func18, Tryz.ntmps18
  go_wp2_with fail
  go_loopw [5] (fun it wr => ∃ i : Nat, i ≤ n ∧ it = .int .i64 i ∧ Hid (Ext w wr)) (fun it _ => n - (intOf it).toNat)
  case atStart => exact ⟨0, Nat.zero_le _, rfl, Lib.hid (Ext.refl _)⟩
  case round =>
    obtain ⟨i, hi, rfl, HX⟩ := hrel
    by_cases hlt : i < n
    · have hin : (i : Int) < (n : Int) := by omega
      have hil : i < l.length := by rw [HN.out]; exact hlt
      obtain ⟨b, off, rfl, hb, wv, mv, nv, hr, hri⟩ := (HS.out.ext HX.out).rec i hil
      obtain ⟨b', off', rfl, hb', wv', mv', nv', hr', hri'⟩ := (HS'.out.ext HX.out).rec i hil
      have hv := (HOK.out.2 i hil).1
      have HA := Lib.hid (fun (w' : World) (e : Ext wr w') => rec_load (r := l[i]) (w := w') (b := b) (o := off + i * 5) (fun k u hk => (e.cell b _ hb).trans (hr k u hk)))
      have HA' := Lib.hid (fun (w' : World) (e : Ext wr w') => rec_load (r := l[i]) (w := w') (b := b') (o := off' + i * 5) (fun k u hk => (e.cell b' _ hb').trans (hr' k u hk)))
      generalize l[i] = x at *
      have F := Lg.fine_of hv
      have HRI := Lib.hid hri
      have HRI' := Lib.hid hri'
      have HL := Lib.hid (show x.ws.length ≤ 64 ∧ x.ms.length ≤ 64 ∧ x.note.length ≤ 256 from ⟨F.nws, F.nms, F.nnote⟩)
      clear hr hr' hri hri' hv F
      go_wp2_with fail
      refine wp_region_ext [(0, true), (1, true), (2, true), (3, true), (4, true), (5, true), (6, true), (7, true), (8, false), (9, true)] (by kernel_rfl) (by kernel_rfl) ?_
      iterate 3 ((first
       | refine ext_move rfl rfl (by rfl) (by rfl) ?_
       | refine ext_assign rfl rfl (by rfl) (by rfl) ?_
       | refine ext_pick_t rfl rfl (by rfl) (by rfl) (by rfl) ?_
       | refine ext_pick_f rfl rfl (by rfl) (by rfl) (by rfl) ?_
       | (apply ext_take rfl (by rfl)
          · intro w' hS
            have hSc := hS.cells
            (try simp only [World.size_drew, World.cell?_drew] at hSc)
            go_simp
            (try simp (disch := omega) only [i64_id, u64_id, ↓IntWalk.iteOmega, Int.tdiv_eq_ediv_of_nonneg, Int.tmod_eq_emod_of_nonneg])
            try rfl)
       | refine ext_pass rfl (by rfl) ?_); simp only [Act.put, setZa, setZ0, setZ1])
      (refine ext_load 52 rfl (by rfl) rfl (by rfl) (fun w' hS => HA.out w' hS) ?_; simp only [Act.put, setZa, setZ0, setZ1])
      iterate 3 ((first
       | refine ext_move rfl rfl (by rfl) (by rfl) ?_
       | refine ext_assign rfl rfl (by rfl) (by rfl) ?_
       | refine ext_pick_t rfl rfl (by rfl) (by rfl) (by rfl) ?_
       | refine ext_pick_f rfl rfl (by rfl) (by rfl) (by rfl) ?_
       | (apply ext_take rfl (by rfl)
          · intro w' hS
            have hSc := hS.cells
            (try simp only [World.size_drew, World.cell?_drew] at hSc)
            go_simp
            (try simp (disch := omega) only [i64_id, u64_id, ↓IntWalk.iteOmega, Int.tdiv_eq_ediv_of_nonneg, Int.tmod_eq_emod_of_nonneg])
            try rfl)
       | refine ext_pass rfl (by rfl) ?_); simp only [Act.put, setZa, setZ0, setZ1])
      (refine ext_load 52 rfl (by rfl) rfl (by rfl) (fun w' hS => HA'.out w' hS) ?_; simp only [Act.put, setZa, setZ0, setZ1])
      (refine ext_do rfl (by rfl) (fun K hK => ?_)
       go_simp
       go_at_call 48
       refine (rsame_any x _ _ _ _ _ _ _ HL.out (HRI.out.ext (by (repeat (first | (with_reducible exact Ext.alloc _ _) | (with_reducible exact Ext.refl _) | (with_reducible refine Ext.trans ?_ (Ext.drew _)) | (with_reducible refine Ext.trans ?_ (Ext.alloc _ _)))))) (HRI'.out.ext (by (repeat (first | (with_reducible exact Ext.alloc _ _) | (with_reducible exact Ext.refl _) | (with_reducible refine Ext.trans ?_ (Ext.drew _)) | (with_reducible refine Ext.trans ?_ (Ext.alloc _ _))))))).mono ?_
       rintro e w5 ⟨rfl, hx5⟩
       have HX5 : Hid (Ext wr w5) := Ext.trans (by (repeat (first | (with_reducible exact Ext.alloc _ _) | (with_reducible exact Ext.refl _) | (with_reducible refine Ext.trans ?_ (Ext.drew _)) | (with_reducible refine Ext.trans ?_ (Ext.alloc _ _))))) hx5
       refine hK _ _ (by first | exact hx5 | exact (Ext.drew _).trans hx5) ?_
       clear hK K hx5
       (try simp only [Act.put, setZa, setZ0, setZ1]))
      iterate 1 ((first
       | refine ext_move rfl rfl (by rfl) (by rfl) ?_
       | refine ext_assign rfl rfl (by rfl) (by rfl) ?_
       | refine ext_pick_t rfl rfl (by rfl) (by rfl) (by rfl) ?_
       | refine ext_pick_f rfl rfl (by rfl) (by rfl) (by rfl) ?_
       | (apply ext_take rfl (by rfl)
          · intro w' hS
            have hSc := hS.cells
            (try simp only [World.size_drew, World.cell?_drew] at hSc)
            go_simp
            (try simp (disch := omega) only [i64_id, u64_id, ↓IntWalk.iteOmega, Int.tdiv_eq_ediv_of_nonneg, Int.tmod_eq_emod_of_nonneg])
            try rfl)
       | refine ext_pass rfl (by rfl) ?_); simp only [Act.put, setZa, setZ0, setZ1])
      refine ext_nil ?_
      go_wp2_with fail
      go_roundw
      case rel => exact ⟨i + 1, by omega, by go_num, HX.out.trans HX5.out⟩
      case measure => simp [intOf]; omega
    · have hin : i = n := by omega
      subst hin
      have hin2 : ¬ ((i : Int) < (i : Int)) := by omega
      go_wp2_with fail
      go_ret
      exact ⟨rfl, HX.out⟩
def nextN (gen : BitVec 64) (n : Nat) : Nat := if 4294967295 < gen.toNat then 0 else gen.toNat * 4294967296 + n + 1
theorem shl32 (g : Nat) (hg : g ≤ 4294967295) (yk : IntKind) : Op.shift .shl .u64 (g : Int) yk 32 = pure (.int .u64 ((g * 4294967296 : Nat) : Int)) := by
  have h := shift_shl_u64 (x := (g : Int)) (yk := yk) (y := 32) (by decide) (by decide)
  rw [h]
  congr 2
  have e : ((2 : Int) ^ (32 : Int).toNat) = 4294967296 := by decide +kernel
  rw [e]
  have : IntKind.u64.wrap ((g : Int) * 4294967296) = (g : Int) * 4294967296 := u64_id _ ⟨by omega, by omega⟩
  rw [this]; congr 1
set_option maxRecDepth 100000 in
theorem next_any (gen : BitVec 64) (a : Option Addr) (n c : Nat) (w : World) (hn : n ≤ 6) :
    Calls Tryz.prog 20 #[.slice a n c, encU gen] w fun e w' => e = .returned (.int .u64 (nextN gen n : Nat)) ∧ w = w' := by
  have e2 : decide ((4294967295 : Int) ≤ (n : Int)) = false := by rw [decide_eq_false_iff_not]; omega
  have e3 : IntKind.u64.wrap (n : Int) = (n : Int) := u64_id _ ⟨by omega, by omega⟩
  rw [show encU gen = .int .u64 (gen.toNat : Int) from rfl]
  by_cases h : 4294967295 < gen.toNat
  · have e1 : decide ((4294967295 : Int) < (gen.toNat : Int)) = true := by rw [decide_eq_true_iff]; omega
    have HV : Hid (nextN gen n = 0) := by show _ = _; unfold nextN; rw [if_pos h]
    rw [HV.out]
    have HNB := Lib.hid hn
    clear h hn
    generalize gen.toNat = g at *
    go_enter Tryz.func20, Tryz.ntmps20
    go_wp2_with fail
    go_ret
    exact ⟨rfl, rfl⟩
  · have e1 : decide ((4294967295 : Int) < (gen.toNat : Int)) = false := by rw [decide_eq_false_iff_not]; omega
    have HV : Hid (nextN gen n = gen.toNat * 4294967296 + n + 1) := by show _ = _; unfold nextN; rw [if_neg h]
    rw [HV.out]
    have hs := shl32 gen.toNat (by omega)
    have hG : gen.toNat * 4294967296 ≤ 18446744069414584320 := by omega
    generalize gen.toNat * 4294967296 = G at *
    generalize gen.toNat = g at *
    have HGB := Lib.hid hG
    have HNB := Lib.hid hn
    have HW : Hid (IntKind.u64.wrap (IntKind.u64.wrap ((G : Int) + n) + 1) = ((G + n + 1 : Nat) : Int)) := by
      show _ = _
      rw [u64_id ((G : Int) + n) ⟨by omega, by omega⟩, u64_id ((G : Int) + n + 1) ⟨by omega, by omega⟩]
      omega
    clear h hG hn
    go_enter Tryz.func20, Tryz.ntmps20
    go_wp2_with fail
    go_ret
    exact ⟨by rw [← HW.out]; rfl, rfl⟩
set_option maxRecDepth 100000 in
theorem rnext_any (gen : BitVec 64) (a : Option Addr) (n c : Nat) (w : World) (hn : n ≤ 6) :
    Calls Tryz.prog 21 #[.slice a n c, encU gen] w fun e w' => e = .returned (.int .u64 (nextN gen n : Nat)) ∧ w = w' := by
  have e2 : decide ((4294967295 : Int) ≤ (n : Int)) = false := by rw [decide_eq_false_iff_not]; omega
  have e3 : IntKind.u64.wrap (n : Int) = (n : Int) := u64_id _ ⟨by omega, by omega⟩
  rw [show encU gen = .int .u64 (gen.toNat : Int) from rfl]
  by_cases h : 4294967295 < gen.toNat
  · have e1 : decide ((4294967296 : Int) ≤ (gen.toNat : Int)) = true := by rw [decide_eq_true_iff]; omega
    have HV : Hid (nextN gen n = 0) := by show _ = _; unfold nextN; rw [if_pos h]
    rw [HV.out]
    have HNB := Lib.hid hn
    clear h hn
    generalize gen.toNat = g at *
    go_enter Tryz.func21, Tryz.ntmps21
    go_wp2_with fail
    go_ret
    exact ⟨rfl, rfl⟩
  · have e1 : decide ((4294967296 : Int) ≤ (gen.toNat : Int)) = false := by rw [decide_eq_false_iff_not]; omega
    have HV : Hid (nextN gen n = gen.toNat * 4294967296 + n + 1) := by show _ = _; unfold nextN; rw [if_neg h]
    rw [HV.out]
    have hs := shl32 gen.toNat (by omega)
    have hG : gen.toNat * 4294967296 ≤ 18446744069414584320 := by omega
    generalize gen.toNat * 4294967296 = G at *
    generalize gen.toNat = g at *
    have HGB := Lib.hid hG
    have HNB := Lib.hid hn
    have HW : Hid (IntKind.u64.wrap (IntKind.u64.wrap ((G : Int) + n) + 1) = ((G + n + 1 : Nat) : Int)) := by
      show _ = _
      rw [u64_id ((G : Int) + n) ⟨by omega, by omega⟩, u64_id ((G : Int) + n + 1) ⟨by omega, by omega⟩]
      omega
    clear h hG hn
    go_enter Tryz.func21, Tryz.ntmps21
    go_wp2_with fail
    go_ret
    exact ⟨by rw [← HW.out]; rfl, rfl⟩
end Go.Proofs.YtjabgpejmnpamaaGreatDoor

namespace Go.Proofs.YtjabgpejmnpamaaGreatDoor
open Go.RowKit
theorem SliceR.recs {w : World} {b off n cap : Nat} {l : List Lg.Rec} (h : SliceR PatR w (.slice (some ⟨b, off, none⟩) n cap) l) :
    ∃ ps : List RP, ps.length = l.length ∧ ∀ i (h1 : i < ps.length) (h2 : i < l.length), ps[i].1 = l[i] ∧ RecIn w ps[i].2.1 ps[i].2.2.1 ps[i].2.2.2 l[i] ∧ w.rangeAt b (off + i * 5) (rpC ps[i]) := by
  have each : ∀ i, i < l.length → ∃ p : RP, ∀ h : i < l.length, p.1 = l[i] ∧ RecIn w p.2.1 p.2.2.1 p.2.2.2 l[i] ∧ w.rangeAt b (off + i * 5) (rpC p) := fun i hi => by
    obtain ⟨b', off', ha, hb, wv, mv, nv, h1, h2⟩ := h.rec i hi
    injection ha with ha
    injection ha with e1 e2 _
    subst e1 e2
    exact ⟨(l[i], wv, mv, nv), fun _ => ⟨rfl, h2, h1⟩⟩
  obtain ⟨ps, h1, h2⟩ := list_of each
  exact ⟨ps, h1, fun i a b' => h2 i a b'⟩
def LogsAt (w : World) (v : Value) (Ls : List (List Lg.Rec)) : Prop := ∃ vs : List SV, SliceAt encS w v vs ∧ vs.length = Ls.length ∧ ∀ i (h1 : i < vs.length) (h2 : i < Ls.length), SliceR PatR w (encS vs[i]) Ls[i]
theorem LogsAt.ext {w w' : World} {v : Value} {Ls : List (List Lg.Rec)} (h : LogsAt w v Ls) (e : Ext w w') : LogsAt w' v Ls := by
  obtain ⟨vs, h1, h2, h3⟩ := h
  exact ⟨vs, h1.ext e, h2, fun i a b => (h3 i a b).ext e⟩
theorem LogsAt.shape {w : World} {v : Value} {Ls : List (List Lg.Rec)} (h : LogsAt w v Ls) : ∃ a c, v = .slice a Ls.length c := by
  obtain ⟨vs, h1, h2, _⟩ := h
  obtain ⟨a, c, e⟩ := h1.shape
  exact ⟨a, c, by rw [e, h2]⟩
theorem LogsAt.get {w : World} {ad : Option Addr} {n cap : Nat} {Ls : List (List Lg.Rec)} (h : LogsAt w (.slice ad n cap) Ls) (i : Nat) (hi : i < Ls.length) :
    ∃ b off, ad = some ⟨b, off, none⟩ ∧ b < w.heap.size ∧ ∃ a c, w.cell? ⟨b, off + i, none⟩ = some (.slice a Ls[i].length c) ∧ SliceR PatR w (.slice a Ls[i].length c) Ls[i] := by
  obtain ⟨vs, h1, h2, h3⟩ := h
  have hi2 : i < vs.length := by rw [h2]; exact hi
  obtain ⟨b, off, e1, e2, e3⟩ := h1.get0 i hi2
  have h4 := h3 i hi2 hi
  obtain ⟨a, c, hv⟩ := h4.shape
  rw [hv] at h4 e3
  exact ⟨b, off, e1, e2, a, c, e3, h4⟩
set_option maxRecDepth 100000 in
set_option maxHeartbeats 3000000 in
theorem join_any (gen : BitVec 64) (l : List Lg.Rec) (cs : List Nat) (v : Value) (w : World) (hok : LogOk gen l) (hn : cs.length ≤ 100) (hcs : ∀ i (h : i < cs.length), cs[i] ≤ l.length) (hgood : ∃ i, ∃ h : i < cs.length, cs[i] = l.length) (h : LogsAt w v (cs.map fun c => l.take c)) :
    Calls Tryz.prog 19 #[v] w fun e w' => ∃ v', e = .returned v' ∧ SliceR PatR w' v' l ∧ Ext w w' := by
  obtain ⟨ad, cap, rfl⟩ := h.shape
  obtain ⟨n, hne⟩ : ∃ n, cs.length = n := ⟨_, rfl⟩
  have hml : (cs.map fun c => l.take c).length = n := by rw [List.length_map, hne]
  have HN := Lib.hid hne
  have HML := Lib.hid hml
  have HS := Lib.hid h
  have HOK := Lib.hid hok
  have HCS := Lib.hid hcs
  have HGD := Lib.hid hgood
  have hl6 := hok.1
  rw [hml] at HS ⊢
  rw [hne] at hn
  clear h hok hne hml hcs hgood
  go_enter Tryz.func19, Tryz.ntmps19
  go_wp2_with fail
  go_loopw [3, 8] (fun bv it wr => ∃ (i m : Nat), i ≤ n ∧ it = .int .i64 i ∧ m ≤ l.length ∧ Hid (∀ j (h : j < cs.length), j < i → cs[j] ≤ m) ∧ Hid (m = 0 → bv = .slice none 0 0) ∧ Hid (SliceR PatR wr bv (l.take m)) ∧ Hid (Ext w wr)) (fun _ it _ => n - (intOf it).toNat)
  case atStart => exact ⟨0, 0, Nat.zero_le _, rfl, Nat.zero_le _, Lib.hid fun j _ h => absurd h (by omega), Lib.hid fun _ => rfl, Lib.hid SliceR.nil, Lib.hid (Ext.refl _)⟩
  case round =>
    obtain ⟨i, m, hi, rfl, hm, HM, HZ, HB, HX⟩ := hrel
    obtain ⟨ab, cb, rfl⟩ := HB.out.shape
    have hml : (l.take m).length = m := by rw [List.length_take]; omega
    rw [hml] at HB HZ ⊢
    by_cases hlt : i < n
    · have hin : (i : Int) < (n : Int) := by omega
      have hil : i < (cs.map fun c => l.take c).length := by rw [HML.out]; exact hlt
      have hic : i < cs.length := by rw [HN.out]; exact hlt
      obtain ⟨b, off, rfl, hb, a1, c1, hc1, hr1⟩ := (HS.out.ext HX.out).get i hil
      have hgl : (cs.map fun c => l.take c)[i] = l.take cs[i] := by rw [List.getElem_map]
      rw [hgl] at hc1 hr1
      have hck := HCS.out i hic
      have HMN : Hid (∀ M, m ≤ M → cs[i] ≤ M → ∀ j (h : j < cs.length), j < i + 1 → cs[j] ≤ M) := fun M h1 h2 j hj hji => by
        rcases Nat.lt_or_ge j i with h' | h'
        · exact Nat.le_trans (HM.out j hj h') h1
        · have : j = i := by omega
          subst this; exact h2
      generalize cs[i] = k at *
      have hkl : (l.take k).length = k := by rw [List.length_take]; omega
      rw [hkl] at hc1 hr1
      have HR1 := Lib.hid hr1
      have HLV := Lib.hid (fun (w' : World) (e : Ext wr w') => logvalid_any gen (l.take k) _ w' (HOK.out.take k) (hr1.ext e))
      clear hr1 hgl
      go_wp2_with fail
      go_at_call 42
      refine (HLV.out _ (by first | exact Ext.refl _ | exact Ext.drew _)).mono ?_
      rintro e w2 ⟨rfl, hx2⟩
      have HX2 := Lib.hid (HX.out.trans hx2)
      have HB2 := Lib.hid (HB.out.ext hx2)
      have HR2 := Lib.hid (HR1.out.ext hx2)
      clear hx2 HLV
      by_cases hkm : m < k
      · have d1 : decide ((m : Int) < (k : Int)) = true := by rw [decide_eq_true_iff]; omega
        go_wp2_with fail
        go_roundw
        case rel => exact ⟨i + 1, k, by omega, by go_num, hck, Lib.hid (HMN.out k (by omega) (Nat.le_refl _)), Lib.hid (fun h => absurd h (by omega)), HR2, HX2⟩
        case measure => simp [intOf]; omega
      · have d1 : decide ((m : Int) < (k : Int)) = false := by rw [decide_eq_false_iff_not]; omega
        go_wp2_with fail
        go_roundw
        case rel => exact ⟨i + 1, m, by omega, by go_num, hm, Lib.hid (HMN.out m (Nat.le_refl _) (by omega)), HZ, HB2, HX2⟩
        case measure => simp [intOf]; omega
    · have hin : i = n := by omega
      subst hin
      have hin2 : ¬ ((i : Int) < (i : Int)) := by omega
      have hmm : m = l.length := by
        obtain ⟨j, hj, e⟩ := HGD.out
        have := HM.out j hj (by rw [← HN.out]; exact hj)
        omega
      have HBL : Hid (SliceR PatR wr (.slice ab m cb) l) := by
        have := HB.out
        rw [show l.take m = l by rw [hmm, List.take_length]] at this
        exact this
      clear HB
      rcases Nat.eq_zero_or_pos m with h0 | h0
      · have hz := HZ.out h0
        injection hz with z1 z2 z3
        subst z1 z3
        have hl0 : l = [] := List.eq_nil_of_length_eq_zero (by omega)
        subst h0
        have HL0 := Lib.hid hl0
        clear hmm hm hml hl6 hl0 z2
        go_wp2_with first | (at_builtin; refine Classical.byContradiction (fun hN => ?_))
        refine hN ?_
        clear hN
        obtain ⟨i0, hI, hI0, hI1, hI2⟩ := info_parts infoRc
        refine wpList_append_own_none rfl _ _ 46 rfl wr.heap.size 52 i0 5 Tryz.underlying46 hI (.slice none 0 0) 0 [] rfl (World.ownsRow_nil _ _ _ _) rfl ?_
        go_wp2_with fail
        go_ret
        exact ⟨_, rfl, by rw [HL0.out]; exact SliceR.nil, HX.out⟩
      · obtain ⟨b, off, hbe, hb, hrest⟩ := HBL.out.at' 0 (by omega)
        clear hrest
        subst hbe
        obtain ⟨ps, p1, p2⟩ := HBL.out.recs
        have HP2 := Lib.hid p2
        have hpm : ps.length = m := by omega
        have HPM := Lib.hid hpm
        have HONE : Hid (∀ q ∈ ps, ∀ u ∈ rpC q, u.oneCell' = true) := fun q hq u hu => by
          obtain ⟨j, hj, rfl⟩ := List.mem_iff_getElem.1 hq
          obtain ⟨e, hin, _⟩ := p2 j hj (by omega)
          obtain ⟨x1, y1, x2, y2, x3, y3, g1, g2, g3⟩ := hin.shape
          generalize ps[j] = p at *
          obtain ⟨r, wv, mv, nv⟩ := p
          simp only at g1 g2 g3
          subst g1 g2 g3
          simp only [rpC, List.mem_cons, List.not_mem_nil, or_false] at hu
          rcases hu with rfl | rfl | rfl | rfl | rfl <;> rfl
        have HMM := Lib.hid hmm
        clear p2 hpm hmm hml
        go_wp2_with first | (at_builtin; refine Classical.byContradiction (fun hN => ?_))
        refine hN ?_
        clear hN
        refine wpList_append_ownR infoRc rfl rpC_len (by decide) Tryz.underlying46 rfl _ _ rfl wr.heap.size (.slice none 0 0) [] ps rfl OwnR.nil rfl HPM.out (fun i hi => (HP2.out i hi (by omega)).2.2) HONE.out (by simp; omega) (by decide) (Nat.le_refl _) ?_
        intro v5 w5 ho5 hg5 _
        have hx5 : Ext wr w5 := Below.grown (Below.refl _ _) hg5 (Nat.le_refl _) (fun q hq => by cases hq)
        have HR5 : Hid (SliceR PatR w5 v5 l) := by
          rw [List.nil_append] at ho5
          refine ho5.toR rpC_len rfl p1.symm fun j a b' => ?_
          obtain ⟨e, hin, _⟩ := HP2.out j b' a
          exact ⟨_, _, _, by unfold rpC; rw [e], hin.ext hx5⟩
        have HX5 := Lib.hid (HX.out.trans hx5)
        clear ho5 hg5 hx5
        go_wp2_with fail
        go_ret
        exact ⟨_, rfl, HR5.out, HX5.out⟩
end Go.Proofs.YtjabgpejmnpamaaGreatDoor

namespace Go.Proofs.YtjabgpejmnpamaaGreatDoor
open Go.RowKit
def OutI (w0 w : World) (B : Nat) (v : Value) (L : List Lg.Rec) : Prop :=
  ∃ ps : List RP, ps.length = L.length ∧ OwnR rpC 5 52 w B v ps ∧ ∀ i (h1 : i < ps.length) (h2 : i < L.length), ps[i].1 = L[i] ∧ RecIn w0 ps[i].2.1 ps[i].2.2.1 ps[i].2.2.2 L[i]
theorem OutI.nil {w0 w : World} {B : Nat} : OutI w0 w B (.slice none 0 0) [] := ⟨[], rfl, OwnR.nil, fun i h => absurd h (by simp)⟩
theorem OutI.ext {w0 w w' : World} {B : Nat} {v : Value} {L : List Lg.Rec} (h : OutI w0 w B v L) (e : Ext w w') : OutI w0 w' B v L := by
  obtain ⟨ps, h1, h2, h3⟩ := h
  exact ⟨ps, h1, h2.ext e, h3⟩
theorem OutI.shape {w0 w : World} {B : Nat} {v : Value} {L : List Lg.Rec} (h : OutI w0 w B v L) : ∃ a c, v = .slice a L.length c := by
  obtain ⟨ps, h1, h2, _⟩ := h
  obtain ⟨a, c, e, _⟩ := h2.shape
  exact ⟨a, c, by rw [e, h1]⟩
theorem OutI.lt {w0 w : World} {B : Nat} {v : Value} {L : List Lg.Rec} (h : OutI w0 w B v L) : FreshV B w.heap.size v := by
  obtain ⟨ps, h1, h2, _⟩ := h
  exact h2.lt
theorem OutI.read {w0 w : World} {B : Nat} {v : Value} {L : List Lg.Rec} (h : OutI w0 w B v L) (e : Ext w0 w) : SliceR PatR w v L := by
  obtain ⟨ps, h1, h2, h3⟩ := h
  refine h2.toR rpC_len rfl h1.symm fun i a b => ?_
  obtain ⟨he, hr⟩ := h3 i b a
  exact ⟨_, _, _, by unfold rpC; rw [he], hr.ext e⟩
theorem wpList_append_recI {ops : Array Oper} {rest : List Oper} {o : Oper} {a : Act} {w : World} {Q : Exit → Act → World → Prop} (hgd : o.guard = none) (s x : Operand)
    (ho : o.op = .call { callee := .builtin .append, args := #[s, x], argTypes := #[46, 46] }) (W : World)
    (B : Nat) (v : Value) (L : List Lg.Rec) (hs : a.eval s = v) (hown : OutI W w B v L) (r : Lg.Rec) (wv mv nv : Value) {w0 : World} {cs : Array Value} {t : TypeId} (hw : w = w0.alloc (.cells cs t)) (hcs : cs = recA r wv mv nv) (hx : a.eval x = .slice (some ⟨w0.heap.size, 0, none⟩) 1 1)
    (hr : RecIn W wv mv nv r) (h1 : wv.oneCell' = true) (h2 : mv.oneCell' = true) (h3 : nv.oneCell' = true) (hl : L.length ≤ 1000) (hbase : B ≤ w.heap.size)
    (h : ∀ v' w', OutI W w' B v' (L ++ [r]) → w.grownBy w' v.ownBlock → wpList Tryz.prog ops Q rest (a.put o.dst v') w') : wpList Tryz.prog ops Q (o :: rest) a w := by
  obtain ⟨ps, e1, e2, e3⟩ := hown
  refine wpList_append_ownR infoRc rfl rpC_len (by decide) Tryz.underlying46 hgd s x ho B v ps [(r, wv, mv, nv)] hs e2 hx rfl (by rw [hw]; exact one_src (by rw [hcs]; rfl)) ?_ (by rw [e1]; omega) (by decide) hbase (fun v' w' ho' hg' _ => h v' w' ⟨ps ++ [(r, wv, mv, nv)], by rw [List.length_append, List.length_append, e1]; rfl, ho', fun i a b => ?_⟩ hg')
  · intro q hq u hu
    rw [List.mem_singleton] at hq
    subst hq
    simp only [rpC, List.mem_cons, List.not_mem_nil, or_false] at hu
    rcases hu with rfl | rfl | rfl | rfl | rfl
    · rfl
    · rfl
    · exact h1
    · exact h2
    · exact h3
  · rw [List.length_append] at a b
    by_cases hi : i < L.length
    · rw [List.getElem_append_left (by omega), List.getElem_append_left hi]
      exact e3 i (by omega) hi
    · rw [List.getElem_append_right (by omega), List.getElem_append_right (by omega)]
      simp only [List.getElem_singleton]
      exact ⟨trivial, hr⟩
def slC (s : SV) : List Value := [encS s]
theorem slC_len (s : SV) : (slC s).length = 1 := rfl
theorem slC_flat (l : List SV) : l.flatMap slC = l.map encS := by
  induction l with
  | nil => rfl
  | cons a t ih => rw [List.flatMap_cons, ih]; rfl
theorem OwnR.toG {e : TypeId} {w : World} {B : Nat} {v : Value} {l : List SV} (h : OwnR slC 1 e w B v l) : OwnG encS e w B v l := by
  unfold OwnR at h
  rw [slC_flat] at h
  exact h
theorem OwnG.toS {e : TypeId} {w : World} {B : Nat} {v : Value} {l : List SV} (h : OwnG encS e w B v l) : OwnR slC 1 e w B v l := by
  unfold OwnR
  rw [slC_flat]
  exact h
theorem infoRs : (Tryz.prog.info? 46).map (fun i => (i.zero, i.size, i.bytes)) = some (some (.slice none 0 0), 1, 24) := by kernel_rfl
theorem infoRr : (Tryz.prog.info? 33).map (fun i => (i.zero, i.size, i.bytes)) = some (some (.slice none 0 0), 1, 24) := by kernel_rfl
def LogsG (w : World) (B : Nat) (lv cv : Value) (L : List Lg.Rec) (cs : List Nat) : Prop :=
  ∃ vs : List SV, OwnR slC 1 46 w B lv vs ∧ vs.length = cs.length ∧ ∀ i (h1 : i < vs.length) (h2 : i < cs.length), ∃ lo hi, LogB lo hi w (encS vs[i]) (L.take cs[i]) ∧ hi ≤ w.heap.size ∧ ∀ q, lv.ownBlock = some q ∨ cv.ownBlock = some q → q < lo ∨ hi ≤ q
def CopsG (W w : World) (B : Nat) (cv : Value) (Cs : List (List (List (BitVec 8)))) : Prop :=
  ∃ us : List SV, OwnR slC 1 33 w B cv us ∧ us.length = Cs.length ∧ ∀ i (h1 : i < us.length) (h2 : i < Cs.length), ∃ xs : List SV, OwnR slC 1 47 w B (encS us[i]) xs ∧ xs.length = Cs[i].length ∧ ∀ j (h3 : j < xs.length) (h4 : j < Cs[i].length), SliceAt encB W (encS xs[j]) Cs[i][j]
theorem LogsG.ext {w w' : World} {B : Nat} {lv cv : Value} {L : List Lg.Rec} {cs : List Nat} (h : LogsG w B lv cv L cs) (e : Ext w w') : LogsG w' B lv cv L cs := by
  obtain ⟨vs, h1, h2, h3⟩ := h
  refine ⟨vs, h1.ext e, h2, fun i a b => ?_⟩
  obtain ⟨lo, hi, g1, g2, g3⟩ := h3 i a b
  exact ⟨lo, hi, g1.ext e, Nat.le_trans g2 e.size, g3⟩
theorem CopsG.ext {W w w' : World} {B : Nat} {cv : Value} {Cs : List (List (List (BitVec 8)))} (h : CopsG W w B cv Cs) (e : Ext w w') : CopsG W w' B cv Cs := by
  obtain ⟨us, h1, h2, h3⟩ := h
  refine ⟨us, h1.ext e, h2, fun i a b => ?_⟩
  obtain ⟨xs, g1, g2, g3⟩ := h3 i a b
  exact ⟨xs, g1.ext e, g2, g3⟩
theorem LogsG.nil {w : World} {B : Nat} {cv : Value} {L : List Lg.Rec} : LogsG w B (.slice none 0 0) cv L [] := ⟨[], OwnR.nil, rfl, fun i h => absurd h (by simp)⟩
theorem CopsG.nil {W w : World} {B : Nat} : CopsG W w B (.slice none 0 0) [] := ⟨[], OwnR.nil, rfl, fun i h => absurd h (by simp)⟩
theorem LogsG.at {w : World} {B : Nat} {lv cv : Value} {L : List Lg.Rec} {cs : List Nat} (h : LogsG w B lv cv L cs) : LogsAt w lv (cs.map fun c => L.take c) := by
  obtain ⟨vs, h1, h2, h3⟩ := h
  refine ⟨vs, h1.toG.slice, by rw [List.length_map, h2], fun i a b => ?_⟩
  rw [List.length_map] at b
  obtain ⟨lo, hi, g1, _, _⟩ := h3 i a b
  rw [List.getElem_map]
  exact g1.row.plain
theorem CopsG.read {W w : World} {B : Nat} {cv : Value} {Cs : List (List (List (BitVec 8)))} (h : CopsG W w B cv Cs) (e : Ext W w) (hm : ∀ c ∈ Cs, c.length ≤ 100000 ∧ ∀ s ∈ c, s.length ≤ 100000) : SliceR (Pat.slice (Pat.slice Pat.u8)) w cv Cs := by
  obtain ⟨us, h1, h2, h3⟩ := h
  refine SliceR.rows (vs := us.map encS) ?_ (by rw [List.length_map, h2]) fun i a b => ?_
  · have := h1.toG.slice
    obtain ⟨ad, cap, hv, hc, hx⟩ := this
    refine ⟨ad, cap, by rw [List.length_map]; exact hv, by rw [List.length_map]; exact hc, ?_⟩
    rcases hx with ⟨hx, hy⟩ | ⟨b', off, hx, hy, hz⟩
    · exact .inl ⟨by rw [hx]; rfl, hy⟩
    · refine .inr ⟨b', off, hx, hy, fun j hj => ?_⟩
      rw [List.length_map] at hj
      rw [hz j hj, List.getElem_map]; rfl
  · rw [List.length_map] at a
    obtain ⟨xs, g1, g2, g3⟩ := h3 i a b
    have hc := hm _ (List.getElem_mem b)
    rw [List.getElem_map]
    refine ⟨?_, by have := hc.1; unfold maxLen; omega⟩
    refine SliceR.rows (vs := xs.map encS) ?_ (by rw [List.length_map, g2]) fun j a2 b2 => ?_
    · obtain ⟨ad, cap, hv, hcp, hx⟩ := g1.toG.slice
      have hxl : (xs.map encS).length = xs.length := List.length_map _
      refine ⟨ad, cap, hv.trans (by rw [hxl]), by rw [hxl]; exact hcp, ?_⟩
      rcases hx with ⟨hx, hy⟩ | ⟨b', off, hx, hy, hz⟩
      · exact .inl ⟨by rw [hx]; rfl, hy⟩
      · refine .inr ⟨b', off, hx, hy, fun k hk => ?_⟩
        rw [List.length_map] at hk
        rw [hz k hk, List.getElem_map]; rfl
    · rw [List.length_map] at a2
      rw [List.getElem_map]
      refine ⟨(SliceAt.ext (g3 j a2 b2) e).toR (fun _ _ => trivial), ?_⟩
      have := hc.2 _ (List.getElem_mem b2)
      unfold maxLen; omega
end Go.Proofs.YtjabgpejmnpamaaGreatDoor

namespace Go.Proofs.YtjabgpejmnpamaaGreatDoor
open Go.RowKit
theorem rpOwnL.toL {w : World} {B : Nat} {v : Value} {S : List (List (BitVec 8))} (h : rpOwnL w B v S) : OwnL w B v S := by
  obtain ⟨vs, h1, h2, h3⟩ := h
  obtain ⟨us, hu1, hu2⟩ := list_of (n := vs.length) (R := fun i (s : SV) => ∀ h : i < vs.length, vs[i] = encS s) fun i hi => by
    obtain ⟨a, c, e⟩ := (h3 i hi (by omega)).shape
    exact ⟨(a, (S[i]'(by omega)).length, c), fun _ => e⟩
  have hm : us.map encS = vs := by
    refine List.ext_getElem (by rw [List.length_map, hu1]) fun i a b => ?_
    rw [List.getElem_map, hu2 i (by rw [List.length_map] at a; exact a) b]
  refine ⟨us, ?_, by rw [hu1, h2], fun i a b => ?_⟩
  · show World.ownsRow _ _ _ _ _ _ _
    rw [hu1, hm]
    have : w.ownsRow B 47 1 v vs.length (vs.map id) := h1
    rwa [List.map_id] at this
  · rw [← hu2 i a (by omega)]
    exact h3 i (by omega) b
theorem logs_snoc {wA wB : World} {B : Nat} {lv lv' cv : Value} {L : List Lg.Rec} {cs : List Nat} {c : Nat} {vs : List SV} {s : SV} {lo hi : Nat} (h2 : vs.length = cs.length)
    (h3 : ∀ i (h1 : i < vs.length) (h2 : i < cs.length), ∃ lo hi, LogB lo hi wA (encS vs[i]) (L.take cs[i]) ∧ hi ≤ wA.heap.size ∧ ∀ q, lv.ownBlock = some q ∨ cv.ownBlock = some q → q < lo ∨ hi ≤ q)
    (hn : LogB lo hi wA (encS s) (L.take c)) (hhi : hi ≤ wA.heap.size) (hlo : ∀ q, lv.ownBlock = some q ∨ cv.ownBlock = some q → q < lo)
    (ho : OwnR slC 1 46 wB B lv' (vs ++ [s])) (hg : wA.grownBy wB lv.ownBlock) (hs : wA.heap.size ≤ wB.heap.size) (hv : lv'.ownBlock = lv.ownBlock ∨ lv'.ownBlock = some wA.heap.size) : LogsG wB B lv' cv L (cs ++ [c]) := by
  have key : ∀ {lo hi : Nat}, hi ≤ wA.heap.size → (∀ q, lv.ownBlock = some q ∨ cv.ownBlock = some q → q < lo ∨ hi ≤ q) → ∀ q, lv'.ownBlock = some q ∨ cv.ownBlock = some q → q < lo ∨ hi ≤ q := by
    intro lo hi hh h q hq
    rcases hq with hq | hq
    · rcases hv with e | e
      · exact h q (.inl (by rw [← e]; exact hq))
      · rw [e] at hq
        injection hq with hq
        right; omega
    · exact h q (.inr hq)
  refine ⟨vs ++ [s], ho, by rw [List.length_append, List.length_append, h2]; rfl, fun i a b => ?_⟩
  by_cases hi' : i < vs.length
  · rw [List.getElem_append_left hi', List.getElem_append_left (by omega)]
    obtain ⟨lo, hi, g1, g2, g3⟩ := h3 i hi' (by omega)
    exact ⟨lo, hi, g1.off hg fun q hq => g3 q (.inl hq), Nat.le_trans g2 hs, key g2 g3⟩
  · rw [List.length_append] at a b
    have e1 : i = vs.length := by simp at a; omega
    subst e1
    rw [List.getElem_append_right (Nat.le_refl _), List.getElem_append_right (by omega)]
    simp only [List.getElem_singleton]
    exact ⟨lo, hi, hn.off hg fun q hq => .inl (hlo q (.inl hq)), Nat.le_trans hhi hs, key hhi fun q hq => .inl (hlo q hq)⟩
theorem LogsG.turn {w w' : World} {B : Nat} {lv cv cv' : Value} {L : List Lg.Rec} {cs : List Nat} (h : LogsG w B lv cv L cs) (hg : w.grownBy w' cv.ownBlock) (hs : w.heap.size ≤ w'.heap.size) (hne : lv.ownBlock ≠ cv.ownBlock ∨ lv.ownBlock = none) (hv : cv'.ownBlock = cv.ownBlock ∨ cv'.ownBlock = some w.heap.size) : LogsG w' B lv cv' L cs := by
  obtain ⟨vs, h1, h2, h3⟩ := h
  refine ⟨vs, h1.kept hg hne, h2, fun i a b => ?_⟩
  obtain ⟨lo, hi, g1, g2, g3⟩ := h3 i a b
  refine ⟨lo, hi, g1.off hg fun q hq => g3 q (.inr hq), Nat.le_trans g2 hs, fun q hq => ?_⟩
  rcases hq with hq | hq
  · exact g3 q (.inl hq)
  · rcases hv with e | e
    · exact g3 q (.inr (by rw [← e]; exact hq))
    · rw [e] at hq
      injection hq with hq
      right; omega
def CopyAt (W w : World) (B : Nat) (v : Value) (C : List (List (BitVec 8))) : Prop :=
  ∃ xs : List SV, OwnR slC 1 47 w B v xs ∧ xs.length = C.length ∧ ∀ j (h3 : j < xs.length) (h4 : j < C.length), SliceAt encB W (encS xs[j]) C[j]
theorem CopyAt.ext {W w w' : World} {B : Nat} {v : Value} {C : List (List (BitVec 8))} (h : CopyAt W w B v C) (e : Ext w w') : CopyAt W w' B v C := by
  obtain ⟨xs, g1, g2, g3⟩ := h
  exact ⟨xs, g1.ext e, g2, g3⟩
theorem CopyAt.turn {α : Type} {enc : α → Value} {e : TypeId} {W w w' : World} {B b' : Nat} {v u : Value} {l : List α} {C : List (List (BitVec 8))} (h : CopyAt W w B v C) (hu : OwnG enc e w b' u l) (hne : e ≠ 47) (hg : w.grownBy w' u.ownBlock) : CopyAt W w' B v C := by
  obtain ⟨xs, g1, g2, g3⟩ := h
  refine ⟨xs, g1.kept hg ?_, g2, g3⟩
  cases hv : v.ownBlock with
  | none => exact .inr rfl
  | some q => exact .inl fun e' => rows_apart g1.toG hu (Ne.symm hne) q hv e'.symm
theorem CopyAt.put {W w : World} {B q n c : Nat} {C : List (List (BitVec 8))} (h : CopyAt W w B (.slice (some ⟨q, 0, none⟩) n c) C) (hn : n = C.length) (k : Nat) : CopyAt W (w.setCell ⟨q, k, none⟩ (.slice none 0 0)) B (.slice (some ⟨q, 0, none⟩) n c) (C.set k []) := by
  obtain ⟨xs, g1, g2, g3⟩ := h
  refine ⟨xs.set k (none, 0, 0), (OwnG.put g1.toG (by omega) k (none, 0, 0)).toS, by rw [List.length_set, List.length_set, g2], fun j a b => ?_⟩
  rw [List.length_set] at a b
  rw [List.getElem_set, List.getElem_set]
  by_cases hk : k = j
  · rw [if_pos hk, if_pos hk]
    exact ⟨none, 0, rfl, Nat.le_refl _, .inl ⟨rfl, fun _ => rfl⟩⟩
  · rw [if_neg hk, if_neg hk]
    exact g3 j a b
theorem CopyAt.shape {W w : World} {B : Nat} {v : Value} {C : List (List (BitVec 8))} (h : CopyAt W w B v C) : ∃ a c, v = .slice a C.length c ∧ C.length ≤ c := by
  obtain ⟨xs, g1, g2, g3⟩ := h
  obtain ⟨a, c, e, hc⟩ := g1.shape
  exact ⟨a, c, by rw [e, g2], by omega⟩
theorem CopyAt.form {W w : World} {B : Nat} {v : Value} {C : List (List (BitVec 8))} (h : CopyAt W w B v C) (hl : 0 < C.length) : ∃ g c, v = .slice (some ⟨g, 0, none⟩) C.length (c + 1) ∧ B ≤ g ∧ g < w.heap.size := by
  obtain ⟨xs, g1, g2, g3⟩ := h
  obtain ⟨g, c, e, hg, hs⟩ := g1.toG.form (by omega)
  exact ⟨g, c, by rw [e, g2], hg, hs⟩
theorem CopsG.turn {α : Type} {enc : α → Value} {e : TypeId} {W w w' : World} {B b' : Nat} {cv u : Value} {l : List α} {Cs : List (List (List (BitVec 8)))} (h : CopsG W w B cv Cs) (hu : OwnG enc e w b' u l) (h1 : e ≠ 47) (h2 : e ≠ 33) (hg : w.grownBy w' u.ownBlock) : CopsG W w' B cv Cs := by
  obtain ⟨us, g1, g2, g3⟩ := h
  refine ⟨us, g1.kept hg ?_, g2, fun i a b => (show CopyAt W w B _ _ from g3 i a b).turn hu h1 hg⟩
  cases hv : cv.ownBlock with
  | none => exact .inr rfl
  | some q => exact .inl fun e' => rows_apart g1.toG hu (Ne.symm h2) q hv e'.symm
theorem cops_snoc {W wA wB : World} {B : Nat} {cv cv' : Value} {Cs : List (List (List (BitVec 8)))} {C : List (List (BitVec 8))} {us : List SV} {u : SV} (h1 : OwnR slC 1 33 wA B cv us) (h2 : us.length = Cs.length)
    (h3 : ∀ i (h1 : i < us.length) (h2 : i < Cs.length), CopyAt W wA B (encS us[i]) Cs[i]) (hn : CopyAt W wA B (encS u) C)
    (ho : OwnR slC 1 33 wB B cv' (us ++ [u])) (hg : wA.grownBy wB cv.ownBlock) : CopsG W wB B cv' (Cs ++ [C]) := by
  refine ⟨us ++ [u], ho, by rw [List.length_append, List.length_append, h2]; rfl, fun i a b => ?_⟩
  show CopyAt W wB B _ _
  by_cases hi' : i < us.length
  · rw [List.getElem_append_left hi', List.getElem_append_left (by omega)]
    exact (h3 i hi' (by omega)).turn h1.toG (by decide) hg
  · rw [List.length_append] at a b
    have e1 : i = us.length := by simp at a; omega
    subst e1
    rw [List.getElem_append_right (Nat.le_refl _), List.getElem_append_right (by omega)]
    simp only [List.getElem_singleton]
    exact hn.turn h1.toG (by decide) hg
theorem us_nil (gen : BitVec 64) (i : Nat) : usB [] gen i = false := by
  unfold usB okP
  simp
theorem chunks_get {gen : BitVec 64} {l : List (BitVec 8)} {i : Nat} (hi : i < numL l.length) : (chunksL gen l).getD i [] = secL gen l i := by
  unfold chunksL chunksK
  rw [List.getD_eq_getElem?_getD, List.getElem?_map, List.getElem?_range hi]
  rfl
theorem chunks_len {gen : BitVec 64} {l : List (BitVec 8)} : (chunksL gen l).length = numL l.length := by
  unfold chunksL chunksK
  rw [List.length_map, List.length_range]
theorem cops_gat {Cs : List (List (List (BitVec 8)))} {gen : BitVec 64} {l : List (BitVec 8)} (hl : l.length ≤ 1048576) (hA : ∀ C ∈ Cs, C = chunksL gen l ∨ ∃ j, C = (chunksL gen l).set j []) (hB : chunksL gen l ∈ Cs) : gatL Cs gen = some l := by
  have ge : ∀ i, numL l.length ≤ i → (chunksL gen l).getD i [] = [] := fun i hi => by
    rw [List.getD_eq_getElem?_getD, List.getElem?_eq_none (by rw [chunks_len]; exact hi)]
    rfl
  refine restore hl (fun C hC i hu => ?_) (fun i hi => ⟨_, hB, chunks_get hi⟩)
  rcases hA C hC with rfl | ⟨j, rfl⟩
  · rcases Nat.lt_or_ge i (numL l.length) with h | h
    · exact ⟨h, chunks_get h⟩
    · rw [ge i h, us_nil] at hu; cases hu
  · rw [List.getD_eq_getElem?_getD, List.getElem?_set] at hu ⊢
    by_cases hj : j = i
    · subst hj
      rw [if_pos rfl] at hu
      split at hu
      · rw [Option.getD_some, us_nil] at hu; cases hu
      · rw [Option.getD_none, us_nil] at hu; cases hu
    · rw [if_neg hj, ← List.getD_eq_getElem?_getD] at hu ⊢
      rcases Nat.lt_or_ge i (numL l.length) with h | h
      · exact ⟨h, chunks_get h⟩
      · rw [ge i h, us_nil] at hu; cases hu
theorem chunks_small {gen : BitVec 64} {l : List (BitVec 8)} (hl : l.length ≤ 400) : (chunksL gen l).length ≤ 13 ∧ 1 ≤ (chunksL gen l).length ∧ ∀ s ∈ chunksL gen l, s.length ≤ 100 := by
  rw [chunks_len]
  refine ⟨by unfold numL; omega, by unfold numL; omega, fun s hs => ?_⟩
  unfold chunksL chunksK at hs
  obtain ⟨i, _, rfl⟩ := List.mem_map.1 hs
  rw [sectorL_len]
  have := chunkL_len l i
  omega
end Go.Proofs.YtjabgpejmnpamaaGreatDoor
