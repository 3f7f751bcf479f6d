/-
  Chapter 30 (label): the payload of the reference.
-/
import Derived.Test.YthjcdikpomlpmaaLbP
namespace Go.Proofs.Ythjcdikpomlpmaa
open Go.RowKit
set_option linter.unusedVariables false

theorem LabAt.geo {w : World} {g o : Nat} {l : Lab} {d : Value} (h : LabAt w g o l d) :
    (Instr.loadAt 24 (.pointer (some ⟨g, o + 8, none⟩))).run Try.prog w = .ok (geoV l.c.r l.c.b l.c.k l.c.c l.c.o) w :=
  run_loadAt_mid w g (o + 8) _ [.int .i64 l.c.r, .int .i64 l.c.b, .int .i64 l.c.k, .int .i64 l.c.c, .int .i64 l.c.o] _
    (fun j v hv => by
      rw [Nat.add_assoc]
      refine h.1 (8 + j) v ?_
      obtain ⟨hj, rfl⟩ := List.getElem?_eq_some_iff.1 hv
      simp only [List.length_cons, List.length_nil] at hj
      match j, hj with
      | 0, _ => rfl
      | 1, _ => rfl
      | 2, _ => rfl
      | 3, _ => rfl
      | 4, _ => rfl)
    Try.underlying24 rfl (by kernel_rfl)
theorem arr_field (c : Cfg) (i : Nat) (h : i < 11) : (#[.int .i64 c.d, .int .i64 c.w, .int .i64 c.t, .int .i64 c.s, .int .i64 c.r, .int .i64 c.b, .int .i64 c.k, .int .i64 c.c, .int .i64 c.o, .int .i64 c.a, .int .i64 c.g] : Array Value)[i]? = some (.int .i64 ((cfgL c).getD i 0)) := by
  match i, h with
  | 0, _ => rfl
  | 1, _ => rfl
  | 2, _ => rfl
  | 3, _ => rfl
  | 4, _ => rfl
  | 5, _ => rfl
  | 6, _ => rfl
  | 7, _ => rfl
  | 8, _ => rfl
  | 9, _ => rfl
  | 10, _ => rfl
theorem add_clear (a b : BitVec 8) (h : a &&& b = 0#8) : IntKind.u8.wrap (ub a + ub b) = ub (a ||| b) := by
  rw [← BitVec.add_eq_or_of_and_eq_zero a b h]
  unfold ub
  simp only [IntKind.wrap, IntKind.bits, IntKind.signed]
  simp [BitVec.toNat_add]
theorem box_new2 (w : World) (o : Obj) (cs : Array Value) (t : TypeId) : BoxAt ((w.alloc o).alloc (.cells cs t)) (w.heap.size + 1) cs t := by
  have := BoxAt.new (w.alloc o) cs t
  rwa [World.size_alloc] at this
set_option maxRecDepth 100000 in
set_option maxHeartbeats 4000000 in
theorem rpayload_any (l : Lab) (dv : Value) (x : List Bool) (w : World) (F : Lb.Fine l x) (h : SliceAt Value.bool w dv x) :
    Calls Try.prog 26 #[labV l dv] w (PayEnd w (Lb.payL l x)) := by
  obtain ⟨ad, cd, rfl⟩ := h.shape
  have HD := Lib.hid h
  have HF := Lib.hid F
  obtain ⟨dk, hdk⟩ := Int.eq_ofNat_of_zero_le F.disk.1
  obtain ⟨bk, hbk⟩ := Int.eq_ofNat_of_zero_le F.blob.1
  have HBK : Hid ((bk : Int) = l.blob) := hbk.symm
  have hdk60 : dk < 60 := by have := F.disk.2; omega
  have hbk60 : bk ≤ 1048576 := by have := F.blob.2; omega
  have HP : Hid (Lb.payL l x = ((((((((uv l.array.toNat ++ uv dk) ++ uv l.gen.toNat) ++ uv l.prev.toNat) ++ Lb.cfgBytes l.c) ++ uv (Lb.bitsL x).length) ++ Lb.bitsL x) ++ uv bk) ++ uv l.sum.toNat) ++ uv l.root.toNat) := by
    show _ = _
    rw [Lb.pay_right, hdk, hbk]; simp [Lb.cfgBytes]
  obtain ⟨n, hn⟩ : ∃ n, x.length = n := ⟨_, rfl⟩
  have HN := Lib.hid hn
  have hn60 : n ≤ 60 := by have := F.len; omega
  rw [hn] at HD ⊢
  have HB1 : Hid (BoxAt (w.alloc (.cells (labA l (.slice ad n cd)) 29)) w.heap.size (labA l (.slice ad n cd)) 29) := BoxAt.new _ _ _
  have HX1 : Hid (Ext w (w.alloc (.cells (labA l (.slice ad n cd)) 29))) := Ext.alloc _ _
  have k0 := HB1.out.cell 0 (v := .int .u64 (l.array.toNat : Nat)) rfl
  have k1 := HB1.out.cell 1 (v := .int .i64 dk) (by rw [show (dk : Int) = l.disk from hdk.symm]; rfl)
  have hl1 := HB1.out.lt
  have h64 : l.array.toNat < 18446744073709551616 ∧ l.gen.toNat < 18446744073709551616 ∧ l.prev.toNat < 18446744073709551616 ∧ l.sum.toNat < 18446744073709551616 ∧ l.root.toNat < 18446744073709551616 := ⟨l.array.isLt, l.gen.isLt, l.prev.isLt, l.sum.isLt, l.root.isLt⟩
  have H64 := Lib.hid h64
  have U0 := (uv_len _ H64.out.1).2
  have U1 := (uv_len dk (by omega)).2
  have U2 := (uv_len _ H64.out.2.1).2
  have U3 := (uv_len _ H64.out.2.2.1).2
  clear h hn F hdk hbk h64
  go_enter Try.func26, Try.ntmps26
  go_upto_region 1 with fail
  generalize w.alloc (.cells (labA l (.slice ad n cd)) 29) = w1 at *
  refine wp_region_ext [(0, true), (1, true), (3, true), (4, true), (5, true), (2, false), (6, false), (7, true)] (by kernel_rfl) (by kernel_rfl) ?_
  iterate 5 (first
   | (refine ext_move rfl rfl (by rfl) (by rfl) ?_; simp only [Act.put, List.setIfInBounds_toArray, List.set_cons_zero, List.set_cons_succ])
   | (refine ext_assign rfl rfl (by rfl) (by rfl) ?_; simp only [Act.put, List.setIfInBounds_toArray, List.set_cons_zero, List.set_cons_succ])
   | (refine ext_pick_t rfl rfl (by rfl) (by rfl) (by rfl) ?_; simp only [Act.put, List.setIfInBounds_toArray, List.set_cons_zero, List.set_cons_succ])
   | (refine ext_pick_f rfl rfl (by rfl) (by rfl) (by rfl) ?_; simp only [Act.put, List.setIfInBounds_toArray, List.set_cons_zero, List.set_cons_succ])
   | (apply ext_take rfl (by rfl)
      · intro w' hS
        have hSc := hS.cells
        (try simp only [World.size_drew, World.cell?_drew] at hSc)
        go_simp
        (try simp (disch := omega) only [i64_id, u64_id, ↓IntWalk.iteOmega, Int.tdiv_eq_ediv_of_nonneg, Int.tmod_eq_emod_of_nonneg])
        try rfl
      simp only [Act.put, List.setIfInBounds_toArray, List.set_cons_zero, List.set_cons_succ])
   | (refine ext_pass rfl (by rfl) ?_; simp only [Act.put, List.setIfInBounds_toArray, List.set_cons_zero, List.set_cons_succ]))
  refine ext_do rfl (by rfl) (fun K hK => ?_)
  go_simp
  go_at_call 47
  refine (rappendUint_any _ [] l.array.toNat _ (by simp) H64.out.1 SliceAt.nil).mono ?_
  rintro e w2 ⟨v2, rfl, ho2, hx2⟩
  rw [List.nil_append] at ho2
  have HO2 := Lib.hid (OwnB.slice ho2)
  have HX2 : Hid (Ext w1 w2) := (Ext.drew _).trans hx2
  refine hK _ _ HX2.out ?_
  clear hK K ho2 hx2
  (try simp only [Act.put, List.setIfInBounds_toArray, List.set_cons_zero, List.set_cons_succ])
  refine ext_do rfl (by rfl) (fun K hK => ?_)
  go_simp
  go_at_call 47
  refine (rappendUint_any _ (uv l.array.toNat) dk _ (by omega) (by omega) HO2.out).mono ?_
  rintro e w3 ⟨v3, rfl, ho3, hx3⟩
  have HO3 := Lib.hid (OwnB.slice ho3)
  have HX3 : Hid (Ext w1 w3) := Ext.trans HX2.out hx3
  refine hK _ _ hx3 ?_
  clear hK K ho3 hx3 k0 k1 hl1
  (try simp only [Act.put, List.setIfInBounds_toArray, List.set_cons_zero, List.set_cons_succ])
  (first
   | (refine ext_move rfl rfl (by rfl) (by rfl) ?_; simp only [Act.put, List.setIfInBounds_toArray, List.set_cons_zero, List.set_cons_succ])
   | (refine ext_assign rfl rfl (by rfl) (by rfl) ?_; simp only [Act.put, List.setIfInBounds_toArray, List.set_cons_zero, List.set_cons_succ])
   | (refine ext_pick_t rfl rfl (by rfl) (by rfl) (by rfl) ?_; simp only [Act.put, List.setIfInBounds_toArray, List.set_cons_zero, List.set_cons_succ])
   | (refine ext_pick_f rfl rfl (by rfl) (by rfl) (by rfl) ?_; simp only [Act.put, List.setIfInBounds_toArray, List.set_cons_zero, List.set_cons_succ])
   | (apply ext_take rfl (by rfl)
      · intro w' hS
        have hSc := hS.cells
        (try simp only [World.size_drew, World.cell?_drew] at hSc)
        go_simp
        (try simp (disch := omega) only [i64_id, u64_id, ↓IntWalk.iteOmega, Int.tdiv_eq_ediv_of_nonneg, Int.tmod_eq_emod_of_nonneg])
        try rfl
      simp only [Act.put, List.setIfInBounds_toArray, List.set_cons_zero, List.set_cons_succ])
   | (refine ext_pass rfl (by rfl) ?_; simp only [Act.put, List.setIfInBounds_toArray, List.set_cons_zero, List.set_cons_succ]))
  refine ext_nil ?_
  have HB3 := Lib.hid (HB1.out.ext HX3.out)
  have HXW3 := Lib.hid (HX1.out.trans HX3.out)
  have k2 := HB3.out.cell 2 (v := .int .u64 (l.gen.toNat : Nat)) rfl
  have k3 := HB3.out.cell 3 (v := .int .u64 (l.prev.toNat : Nat)) rfl
  have hl3 := HB3.out.lt
  obtain ⟨y, hy⟩ : ∃ y, uv l.array.toNat ++ uv dk = y := ⟨_, rfl⟩
  have hyl : y.length ≤ 20 := by rw [← hy, List.length_append]; omega
  rw [hy] at HO3 HP
  clear hy HB1 HX1 HX3 HX2 HO2
  go_upto_region 2 with fail
  refine wp_region_ext [(0, true), (1, true), (2, true), (4, true), (5, true), (3, false), (6, false), (7, true)] (by kernel_rfl) (by kernel_rfl) ?_
  iterate 5 (first
   | (refine ext_move rfl rfl (by rfl) (by rfl) ?_; simp only [Act.put, List.setIfInBounds_toArray, List.set_cons_zero, List.set_cons_succ])
   | (refine ext_assign rfl rfl (by rfl) (by rfl) ?_; simp only [Act.put, List.setIfInBounds_toArray, List.set_cons_zero, List.set_cons_succ])
   | (refine ext_pick_t rfl rfl (by rfl) (by rfl) (by rfl) ?_; simp only [Act.put, List.setIfInBounds_toArray, List.set_cons_zero, List.set_cons_succ])
   | (refine ext_pick_f rfl rfl (by rfl) (by rfl) (by rfl) ?_; simp only [Act.put, List.setIfInBounds_toArray, List.set_cons_zero, List.set_cons_succ])
   | (apply ext_take rfl (by rfl)
      · intro w' hS
        have hSc := hS.cells
        (try simp only [World.size_drew, World.cell?_drew] at hSc)
        go_simp
        (try simp (disch := omega) only [i64_id, u64_id, ↓IntWalk.iteOmega, Int.tdiv_eq_ediv_of_nonneg, Int.tmod_eq_emod_of_nonneg])
        try rfl
      simp only [Act.put, List.setIfInBounds_toArray, List.set_cons_zero, List.set_cons_succ])
   | (refine ext_pass rfl (by rfl) ?_; simp only [Act.put, List.setIfInBounds_toArray, List.set_cons_zero, List.set_cons_succ]))
  refine ext_do rfl (by rfl) (fun K hK => ?_)
  go_simp
  go_at_call 47
  refine (rappendUint_any _ y l.gen.toNat _ (by omega) H64.out.2.1 (HO3.out.ext (Ext.drew _))).mono ?_
  rintro e w4 ⟨v4, rfl, ho4, hx4⟩
  have HO4 := Lib.hid (OwnB.slice ho4)
  have HX4 : Hid (Ext w3 w4) := (Ext.drew _).trans hx4
  obtain ⟨y2, hy2⟩ : ∃ y2, y ++ uv l.gen.toNat = y2 := ⟨_, rfl⟩
  have hyl2 : y2.length ≤ 30 := by rw [← hy2, List.length_append]; omega
  rw [hy2] at HO4 HP
  refine hK _ _ HX4.out ?_
  clear hK K ho4 hx4 hy2
  (try simp only [Act.put, List.setIfInBounds_toArray, List.set_cons_zero, List.set_cons_succ])
  refine ext_do rfl (by rfl) (fun K hK => ?_)
  go_simp
  go_at_call 47
  refine (rappendUint_any _ y2 l.prev.toNat _ (by omega) H64.out.2.2.1 HO4.out).mono ?_
  rintro e w5 ⟨v5, rfl, ho5, hx5⟩
  have HO5 := Lib.hid (OwnB.slice ho5)
  have HX5 : Hid (Ext w3 w5) := Ext.trans HX4.out hx5
  obtain ⟨A, hA⟩ : ∃ A, y2 ++ uv l.prev.toNat = A := ⟨_, rfl⟩
  have hAl : A.length ≤ 40 := by rw [← hA, List.length_append]; omega
  rw [hA] at HO5 HP
  refine hK _ _ hx5 ?_
  clear hK K ho5 hx5 k2 k3 hl3 hA
  (try simp only [Act.put, List.setIfInBounds_toArray, List.set_cons_zero, List.set_cons_succ])
  (first
   | (refine ext_move rfl rfl (by rfl) (by rfl) ?_; simp only [Act.put, List.setIfInBounds_toArray, List.set_cons_zero, List.set_cons_succ])
   | (refine ext_assign rfl rfl (by rfl) (by rfl) ?_; simp only [Act.put, List.setIfInBounds_toArray, List.set_cons_zero, List.set_cons_succ])
   | (refine ext_pick_t rfl rfl (by rfl) (by rfl) (by rfl) ?_; simp only [Act.put, List.setIfInBounds_toArray, List.set_cons_zero, List.set_cons_succ])
   | (refine ext_pick_f rfl rfl (by rfl) (by rfl) (by rfl) ?_; simp only [Act.put, List.setIfInBounds_toArray, List.set_cons_zero, List.set_cons_succ])
   | (apply ext_take rfl (by rfl)
      · intro w' hS
        have hSc := hS.cells
        (try simp only [World.size_drew, World.cell?_drew] at hSc)
        go_simp
        (try simp (disch := omega) only [i64_id, u64_id, ↓IntWalk.iteOmega, Int.tdiv_eq_ediv_of_nonneg, Int.tmod_eq_emod_of_nonneg])
        try rfl
      simp only [Act.put, List.setIfInBounds_toArray, List.set_cons_zero, List.set_cons_succ])
   | (refine ext_pass rfl (by rfl) ?_; simp only [Act.put, List.setIfInBounds_toArray, List.set_cons_zero, List.set_cons_succ]))
  refine ext_nil ?_
  have HB5 := Lib.hid (HB3.out.ext HX5.out)
  have HXW5 := Lib.hid (HXW3.out.trans HX5.out)
  clear HB3 HX4 HX5 HO4 HO3 HXW3
  go_upto_region 3 with fail
  go_cut [4, 5] (fun s4 s5 wx => ∃ b1 b2 : Nat, s4 = .pointer (some ⟨b1, 0, none⟩) ∧ s5 = .pointer (some ⟨b2, 0, none⟩) ∧ Hid (BoxAt wx b1 #[.int .i64 l.c.d, .int .i64 l.c.w, .int .i64 l.c.t, .int .i64 l.c.s, .int .i64 l.c.r, .int .i64 l.c.b, .int .i64 l.c.k, .int .i64 l.c.c, .int .i64 l.c.o, .int .i64 l.c.a, .int .i64 l.c.g] 26) ∧ Hid (BoxAt wx b2 #[.int .i64 l.c.r, .int .i64 l.c.b, .int .i64 l.c.k, .int .i64 l.c.c, .int .i64 l.c.o] 24) ∧ Hid (Ext w5 wx))
  case first =>
    have q4 := HB5.out.cell 4 (v := .int .i64 l.c.d) rfl
    have q5 := HB5.out.cell 5 (v := .int .i64 l.c.w) rfl
    have q6 := HB5.out.cell 6 (v := .int .i64 l.c.t) rfl
    have q7 := HB5.out.cell 7 (v := .int .i64 l.c.s) rfl
    have q8 := HB5.out.cell 8 (v := .int .i64 l.c.r) rfl
    have q9 := HB5.out.cell 9 (v := .int .i64 l.c.b) rfl
    have q10 := HB5.out.cell 10 (v := .int .i64 l.c.k) rfl
    have q11 := HB5.out.cell 11 (v := .int .i64 l.c.c) rfl
    have q12 := HB5.out.cell 12 (v := .int .i64 l.c.o) rfl
    have q13 := HB5.out.cell 13 (v := .int .i64 l.c.a) rfl
    have q14 := HB5.out.cell 14 (v := .int .i64 l.c.g) rfl
    have hgl := HB5.out.lt
    go_region
    all_goals
      go_wp2_with fail
      go_meet
    · exact ⟨_, _, rfl, rfl, ((BoxAt.new _ _ _).ext (Ext.alloc _ _)).ext (Ext.drew _), (box_new2 _ _ _ _).ext (Ext.drew _), ((Ext.alloc _ _).trans (Ext.alloc _ _)).trans (Ext.drew _)⟩
    · exact ⟨_, _, rfl, rfl, (box_new2 _ _ _ _).ext (Ext.drew _), ((BoxAt.new _ _ _).ext (Ext.alloc _ _)).ext (Ext.drew _), ((Ext.alloc _ _).trans (Ext.alloc _ _)).trans (Ext.drew _)⟩
  case rest =>
    obtain ⟨b1, b2, rfl, rfl, HC, HG, HXC⟩ := hcut
    have c0 := HC.out.cell 0 (v := .int .i64 l.c.d) rfl
    have c1 := HC.out.cell 1 (v := .int .i64 l.c.w) rfl
    have c2 := HC.out.cell 2 (v := .int .i64 l.c.t) rfl
    have c3 := HC.out.cell 3 (v := .int .i64 l.c.s) rfl
    have c9 := HC.out.cell 9 (v := .int .i64 l.c.a) rfl
    have c10 := HC.out.cell 10 (v := .int .i64 l.c.g) rfl
    have g0 := HG.out.cell 0 (v := .int .i64 l.c.r) rfl
    have g1 := HG.out.cell 1 (v := .int .i64 l.c.b) rfl
    have g2 := HG.out.cell 2 (v := .int .i64 l.c.k) rfl
    have g3 := HG.out.cell 3 (v := .int .i64 l.c.c) rfl
    have g4 := HG.out.cell 4 (v := .int .i64 l.c.o) rfl
    have hcl := HC.out.lt
    have hgl := HG.out.lt
    have HBA : Hid (BoxAt (wc.alloc (.cells #[.int .i64 l.c.d, .int .i64 l.c.w, .int .i64 l.c.t, .int .i64 l.c.s, .int .i64 l.c.r, .int .i64 l.c.b, .int .i64 l.c.k, .int .i64 l.c.c, .int .i64 l.c.o, .int .i64 l.c.a, .int .i64 l.c.g] 72)) wc.heap.size #[.int .i64 l.c.d, .int .i64 l.c.w, .int .i64 l.c.t, .int .i64 l.c.s, .int .i64 l.c.r, .int .i64 l.c.b, .int .i64 l.c.k, .int .i64 l.c.c, .int .i64 l.c.o, .int .i64 l.c.a, .int .i64 l.c.g] 72) := BoxAt.new _ _ _
    have HX6 : Hid (Ext w5 (wc.alloc (.cells #[.int .i64 l.c.d, .int .i64 l.c.w, .int .i64 l.c.t, .int .i64 l.c.s, .int .i64 l.c.r, .int .i64 l.c.b, .int .i64 l.c.k, .int .i64 l.c.c, .int .i64 l.c.o, .int .i64 l.c.a, .int .i64 l.c.g] 72))) := HXC.out.trans (Ext.alloc _ _)
    go_upto_region 5 with fail
    generalize wc.alloc (.cells #[.int .i64 l.c.d, .int .i64 l.c.w, .int .i64 l.c.t, .int .i64 l.c.s, .int .i64 l.c.r, .int .i64 l.c.b, .int .i64 l.c.k, .int .i64 l.c.c, .int .i64 l.c.o, .int .i64 l.c.a, .int .i64 l.c.g] 72) = w6 at *
    generalize wc.heap.size = ga at *
    have HB6 := Lib.hid (HB5.out.ext HX6.out)
    have HXW6 := Lib.hid (HXW5.out.trans HX6.out)
    have HST : Hid (SliceAt encB w6 v5 (A ++ ((cfgL l.c).take 0).flatMap fun n => uv n.toNat)) := by
      show SliceAt _ _ _ _
      rw [List.take_zero, List.flatMap_nil, List.append_nil]; exact HO5.out.ext HX6.out
    clear c0 c1 c2 c3 c9 c10 g0 g1 g2 g3 g4 hcl hgl HC HG HXC HX6 HB5 HXW5 HO5
    go_wp2_with fail
    go_loopw [3, 7] (fun vo it wr => ∃ i : Nat, i ≤ 11 ∧ it = .int .i64 i ∧ Hid (SliceAt encB wr vo (A ++ ((cfgL l.c).take i).flatMap fun n => uv n.toNat)) ∧ Hid (Ext w6 wr)) (fun _ it _ => 11 - (intOf it).toNat)
    case atStart => exact ⟨0, by decide, rfl, HST, Lib.hid (Ext.refl _)⟩
    case round =>
      obtain ⟨i, hi, rfl, HS, HX⟩ := hrel
      by_cases hlt : i < 11
      · have hin : (i : Int) < 11 := by omega
        have hcl := (HBA.out.ext HX.out).cell i (arr_field l.c i hlt)
        have hgl := (HBA.out.ext HX.out).lt
        have hcm : 0 ≤ (cfgL l.c).getD i 0 ∧ (cfgL l.c).getD i 0 ≤ 65535 := HF.out.cfg _ (by rw [getD_in (show i < (cfgL l.c).length from hlt)]; exact List.getElem_mem _)
        have HNX := Lib.hid (cfg_next l.c hlt)
        have hsl := cfg_short HF.out.cfg i
        obtain ⟨q, hq⟩ := Int.eq_ofNat_of_zero_le hcm.1
        have hq6 : q ≤ 65535 := by omega
        rw [hq, Int.toNat_natCast, show Lb.numsL [q] = uv q by simp [Lb.numsL]] at HNX
        rw [hq] at hcl
        have hyl3 : (A ++ ((cfgL l.c).take i).flatMap fun n => uv n.toNat).length ≤ 10000 := by rw [List.length_append]; omega
        obtain ⟨y3, hy3⟩ : ∃ y3, (A ++ ((cfgL l.c).take i).flatMap fun n => uv n.toNat) = y3 := ⟨_, rfl⟩
        have HY := Lib.hid hy3
        rw [hy3] at HS hyl3
        clear hq hcm hsl hy3
        go_wp2_with fail
        go_at_call 47
        refine (rappendUint_any _ y3 q _ (by omega) (by omega) HS.out).mono ?_
        rintro e w7 ⟨v7, rfl, ho7, hx7⟩
        have HS7 : Hid (SliceAt encB w7 v7 (A ++ ((cfgL l.c).take (i + 1)).flatMap fun n => uv n.toNat)) := by
          show SliceAt _ _ _ _
          rw [HNX.out, ← List.append_assoc, HY.out]; exact OwnB.slice ho7
        have HX7 : Hid (Ext w6 w7) := HX.out.trans hx7
        clear ho7 hx7 hcl hgl
        go_wp2_with fail
        go_roundw
        case rel => exact ⟨i + 1, by omega, by go_num, HS7, HX7⟩
        case measure => simp [intOf]; omega
      · have hin : i = 11 := by omega
        subst hin
        rw [show (cfgL l.c).take 11 = cfgL l.c from rfl, show ((cfgL l.c).flatMap fun n => uv n.toNat) = Lb.cfgBytes l.c from rfl] at HS
        have hyl3 : (A ++ Lb.cfgBytes l.c).length ≤ 73 := by rw [List.length_append]; have := Lb.cfgB_len l.c HF.out.cfg; omega
        obtain ⟨y3, hy3⟩ : ∃ y3, A ++ Lb.cfgBytes l.c = y3 := ⟨_, rfl⟩
        rw [hy3] at HS hyl3 HP
        have HB := Lib.hid (HB6.out.ext HX.out)
        have HXw := Lib.hid (HXW6.out.trans HX.out)
        clear hy3 HB6 HXW6 HX HBA HST
        have m15 := HB.out.cell 15 (v := .slice ad n cd) rfl
        have hgl := HB.out.lt
        obtain ⟨nb, hnb⟩ : ∃ nb, (n + 7) / 8 = nb := ⟨_, rfl⟩
        have hnbI : ((n : Int) + 7) / 8 = (nb : Int) := by omega
        have hnb8 : nb ≤ 8 := by omega
        have HNB := Lib.hid hnb
        clear hnb
        have hmk : ∀ w : World, (Instr.makeSlice 35 (.int .i64 (nb : Int)) (.int .i64 (nb : Int))).run Try.prog w = .ok (.slice (some ⟨w.heap.size, 0, none⟩) nb nb) (w.alloc (.cells (madeCells #[.int .u8 0] nb) 5)) :=
          run_make_row' 35 5 (.int .u8 0) 1 Try.underlying35 infoB rfl .i64 .i64 nb (by omega) (by first | omega | (unfold maxLen; omega))
        go_upto_region 10 with fail
        have HNBI := Lib.hid hnbI
        clear hnbI
        have HO0 : Hid (OwnG encB 5 (wr.alloc (.cells (madeCells #[.int .u8 0] nb) 5)) wr.heap.size (.slice (some ⟨wr.heap.size, 0, none⟩) nb nb) (Lb.bitsTo x 0)) := by
          have := OwnB.made wr nb wr.heap.size (Nat.le_refl _) (by unfold maxLen; omega)
          show OwnG _ _ _ _ _ _
          rw [Lb.bitsTo, HN.out, HNB.out]; exact this
        have HX4 : Hid (Ext wr (wr.alloc (.cells (madeCells #[.int .u8 0] nb) 5))) := Ext.alloc _ _
        generalize wr.alloc (.cells (madeCells #[.int .u8 0] nb) 5) = w8 at *
        clear hmk m15 hgl
        generalize wr = wo at *
        have HBL : Hid (∀ i, (Lb.bitsTo x i).length = nb) := fun i => by rw [Lb.bitsTo_len, HN.out, HNB.out]
        go_wp2_with fail
        go_loopw [9] (fun it wr => ∃ i : Nat, i ≤ n ∧ it = .int .i64 i ∧ Hid (OwnG encB 5 wr wo.heap.size (.slice (some ⟨wo.heap.size, 0, none⟩) nb nb) (Lb.bitsTo x i)) ∧ Hid (Ext wo wr)) (fun it _ => n - (intOf it).toNat)
        case atStart => exact ⟨0, Nat.zero_le _, rfl, HO0, HX4⟩
        case round =>
          obtain ⟨i, hi, rfl, HO, HX⟩ := hrel
          have m15 := (HB.out.ext HX.out).cell 15 (v := .slice ad n cd) rfl
          have hgl := (HB.out.ext HX.out).lt
          by_cases hlt : i < n
          · have hin : (i : Int) < (n : Int) := by omega
            have hi0 : (0 : Int) ≤ (i : Int) := by omega
            have hxl : i < x.length := by rw [HN.out]; exact hlt
            obtain ⟨bd, od, rfl, hbd, hcd⟩ := (HD.out.ext (HXw.out.trans HX.out)).get i hxl
            rw [← getD_in (d := false) hxl] at hcd
            have HNX : Hid (Lb.bitsTo x (i + 1) = if x.getD i false then (Lb.bitsTo x i).set (i / 8) ((Lb.bitsTo x i).getD (i / 8) 0#8 ||| 1#8 <<< (i % 8)) else Lb.bitsTo x i) := rfl
            cases hxi : x.getD i false with
            | false =>
              rw [hxi] at hcd HNX
              have HN2 : Hid (Lb.bitsTo x (i + 1) = Lb.bitsTo x i) := HNX.out
              go_wp2_with fail
              go_roundw
              case rel => exact ⟨i + 1, by omega, by go_num, by rw [HN2.out]; exact HO, HX⟩
              case measure => simp [intOf]; omega
            | true =>
              rw [hxi] at hcd HNX
              have HN2 : Hid (Lb.bitsTo x (i + 1) = (Lb.bitsTo x i).set (i / 8) ((Lb.bitsTo x i).getD (i / 8) 0#8 ||| 1#8 <<< (i % 8))) := HNX.out
              have hi8 : i / 8 < nb := by have := HNB.out; omega
              have hbl := HBL.out i
              have hcy := HO.out.at hbl.symm (show i / 8 < (Lb.bitsTo x i).length by rw [hbl]; exact hi8)
              rw [← getD_in (d := 0#8) (show i / 8 < (Lb.bitsTo x i).length by rw [hbl]; exact hi8)] at hcy
              have hfy := HO.out.frees hbl.symm (i / 8)
              have hfd : wr.drew.frozen? ⟨wo.heap.size, i / 8, none⟩ = false := by simpa using hfy
              have hlo : wo.heap.size < wr.heap.size := (OwnG.lt HO.out wo.heap.size (by simp [Value.ownBlock])).2
              have hq : ((i : Int) / 8).toNat = i / 8 := by omega
              have hr : ((i : Int) % 8).toNat = i % 8 := by omega
              have hs := wrap_bit (i % 8) (Nat.mod_lt _ (by decide))
              have hadd : IntKind.u8.wrap (ub ((Lb.bitsTo x i).getD (i / 8) 0#8) + ub (1#8 <<< (i % 8))) = ub ((Lb.bitsTo x i).getD (i / 8) 0#8 ||| 1#8 <<< (i % 8)) := add_clear _ _ (Lb.bits_clear x hxl)
              have HO2 : Hid (OwnG encB 5 ((wr.setCell ⟨wo.heap.size, i / 8, none⟩ (encB ((Lb.bitsTo x i).getD (i / 8) 0#8 ||| 1#8 <<< (i % 8)))).drew) wo.heap.size (.slice (some ⟨wo.heap.size, 0, none⟩) nb nb) (Lb.bitsTo x (i + 1))) := by
                show OwnG _ _ _ _ _ _
                rw [HN2.out]; exact (HO.out.put hbl.symm (i / 8) _).ext (Ext.drew _)
              generalize (Lb.bitsTo x i).getD (i / 8) 0#8 = ya at *
              generalize ya ||| 1#8 <<< (i % 8) = yb at *
              clear hbl
              go_wp2_with fail
              refine wp_region_ext [(0, true), (1, true), (2, true), (3, true), (4, true), (5, true), (6, true), (7, true), (8, true), (9, true), (10, false)] (by kernel_rfl) (by kernel_rfl) ?_
              iterate 10 (first
               | (refine ext_move rfl rfl (by rfl) (by rfl) ?_; simp only [Act.put, List.setIfInBounds_toArray, List.set_cons_zero, List.set_cons_succ])
               | (refine ext_assign rfl rfl (by rfl) (by rfl) ?_; simp only [Act.put, List.setIfInBounds_toArray, List.set_cons_zero, List.set_cons_succ])
               | (refine ext_pick_t rfl rfl (by rfl) (by rfl) (by rfl) ?_; simp only [Act.put, List.setIfInBounds_toArray, List.set_cons_zero, List.set_cons_succ])
               | (refine ext_pick_f rfl rfl (by rfl) (by rfl) (by rfl) ?_; simp only [Act.put, List.setIfInBounds_toArray, List.set_cons_zero, List.set_cons_succ])
               | (apply ext_take rfl (by rfl)
                  · intro w' hS
                    have hSc := hS.cells
                    (try simp only [World.size_drew, World.cell?_drew] at hSc)
                    go_simp
                    (try simp (disch := omega) only [i64_id, u64_id, ↓IntWalk.iteOmega, Int.tdiv_eq_ediv_of_nonneg, Int.tmod_eq_emod_of_nonneg])
                    try rfl
                  simp only [Act.put, List.setIfInBounds_toArray, List.set_cons_zero, List.set_cons_succ])
               | (refine ext_pass rfl (by rfl) ?_; simp only [Act.put, List.setIfInBounds_toArray, List.set_cons_zero, List.set_cons_succ]))
              (refine ext_last rfl (by rfl) (by kernel_rfl) (fun K hK => ?_)
               go_simp
               refine hK _ _ ?_
               clear hK K
               (try simp only [Act.put, List.setIfInBounds_toArray, List.set_cons_zero, List.set_cons_succ]))
              go_wp2_with fail
              refine ⟨?_, ?measure⟩
              apply Exists.intro
              repeat apply Exists.intro
              refine ⟨?rel, rfl⟩
              case rel => exact ⟨i + 1, by omega, by go_num, HO2, (HX.out.setOwn (Nat.le_refl _)).trans (Ext.drew _)⟩
              case measure => simp [intOf]; omega
          · have hin : i = n := by omega
            subst hin
            have hin2 : ¬ ((i : Int) < (i : Int)) := by omega
            have HBS : Hid (SliceAt encB wr (.slice (some ⟨wo.heap.size, 0, none⟩) nb nb) (Lb.bitsL x)) := by
              have := HO.out.slice
              rw [show Lb.bitsTo x i = Lb.bitsL x by unfold Lb.bitsL; rw [HN.out]] at this
              exact this
            have hbs8 : (Lb.bitsL x).length ≤ 8 := by unfold Lb.bitsL; rw [HBL.out]; omega
            have HSy := Lib.hid (HS.out.ext HX.out)
            have HBq := Lib.hid (HB.out.ext HX.out)
            have k16 := HBq.out.cell 16 (v := .int .i64 bk) (by rw [HBK.out]; rfl)
            have HXw4 := Lib.hid (HXw.out.trans HX.out)
            have U5 := (uv_len (Lb.bitsL x).length (by omega)).2
            have U6 := (uv_len bk (by omega)).2
            have U7 := (uv_len _ H64.out.2.2.2.1).2
            generalize Lb.bitsL x = bs at *
            obtain ⟨y4, hy4⟩ : ∃ y4, y3 ++ uv bs.length ++ bs = y4 := ⟨_, rfl⟩
            have hyl4 : y4.length ≤ 100 := by rw [← hy4, List.length_append, List.length_append]; omega
            have HY4 := Lib.hid hy4
            rw [hy4] at HP
            clear HBL HO HX HB hy4
            go_upto_region 15 with fail
            refine wp_region_ext [(0, true), (1, true), (3, true), (4, true), (5, true), (2, false), (6, false), (7, true)] (by kernel_rfl) (by kernel_rfl) ?_
            iterate 5 (first
             | (refine ext_move rfl rfl (by rfl) (by rfl) ?_; simp only [Act.put, List.setIfInBounds_toArray, List.set_cons_zero, List.set_cons_succ])
             | (refine ext_assign rfl rfl (by rfl) (by rfl) ?_; simp only [Act.put, List.setIfInBounds_toArray, List.set_cons_zero, List.set_cons_succ])
             | (refine ext_pick_t rfl rfl (by rfl) (by rfl) (by rfl) ?_; simp only [Act.put, List.setIfInBounds_toArray, List.set_cons_zero, List.set_cons_succ])
             | (refine ext_pick_f rfl rfl (by rfl) (by rfl) (by rfl) ?_; simp only [Act.put, List.setIfInBounds_toArray, List.set_cons_zero, List.set_cons_succ])
             | (apply ext_take rfl (by rfl)
                · intro w' hS
                  have hSc := hS.cells
                  (try simp only [World.size_drew, World.cell?_drew] at hSc)
                  go_simp
                  (try simp (disch := omega) only [i64_id, u64_id, ↓IntWalk.iteOmega, Int.tdiv_eq_ediv_of_nonneg, Int.tmod_eq_emod_of_nonneg])
                  try rfl
                simp only [Act.put, List.setIfInBounds_toArray, List.set_cons_zero, List.set_cons_succ])
             | (refine ext_pass rfl (by rfl) ?_; simp only [Act.put, List.setIfInBounds_toArray, List.set_cons_zero, List.set_cons_succ]))
            refine ext_do rfl (by rfl) (fun K hK => ?_)
            go_simp
            go_at_call 49
            refine (rappendBytes_any _ _ y3 bs _ (by omega) (by omega) (HSy.out.ext (Ext.drew _)) (HBS.out.ext (Ext.drew _))).mono ?_
            rintro e wb ⟨vb, rfl, hob, hxb⟩
            rw [HY4.out] at hob
            have HOB := Lib.hid (OwnB.slice hob)
            have HXB : Hid (Ext wr wb) := Ext.trans (Ext.drew _) hxb
            refine hK _ _ HXB.out ?_
            clear hK K hob hxb
            (try simp only [Act.put, List.setIfInBounds_toArray, List.set_cons_zero, List.set_cons_succ])
            refine ext_do rfl (by rfl) (fun K hK => ?_)
            go_simp
            go_at_call 47
            refine (rappendUint_any _ y4 bk _ (by omega) (by omega) HOB.out).mono ?_
            rintro e wd ⟨vd, rfl, hod, hxd⟩
            have HOD := Lib.hid (OwnB.slice hod)
            have HXD : Hid (Ext wr wd) := Ext.trans HXB.out hxd
            refine hK _ _ hxd ?_
            clear hK K hod hxd k16 m15 hgl
            (try simp only [Act.put, List.setIfInBounds_toArray, List.set_cons_zero, List.set_cons_succ])
            (first
             | (refine ext_move rfl rfl (by rfl) (by rfl) ?_; simp only [Act.put, List.setIfInBounds_toArray, List.set_cons_zero, List.set_cons_succ])
             | (refine ext_assign rfl rfl (by rfl) (by rfl) ?_; simp only [Act.put, List.setIfInBounds_toArray, List.set_cons_zero, List.set_cons_succ])
             | (refine ext_pick_t rfl rfl (by rfl) (by rfl) (by rfl) ?_; simp only [Act.put, List.setIfInBounds_toArray, List.set_cons_zero, List.set_cons_succ])
             | (refine ext_pick_f rfl rfl (by rfl) (by rfl) (by rfl) ?_; simp only [Act.put, List.setIfInBounds_toArray, List.set_cons_zero, List.set_cons_succ])
             | (apply ext_take rfl (by rfl)
                · intro w' hS
                  have hSc := hS.cells
                  (try simp only [World.size_drew, World.cell?_drew] at hSc)
                  go_simp
                  (try simp (disch := omega) only [i64_id, u64_id, ↓IntWalk.iteOmega, Int.tdiv_eq_ediv_of_nonneg, Int.tmod_eq_emod_of_nonneg])
                  try rfl
                simp only [Act.put, List.setIfInBounds_toArray, List.set_cons_zero, List.set_cons_succ])
             | (refine ext_pass rfl (by rfl) ?_; simp only [Act.put, List.setIfInBounds_toArray, List.set_cons_zero, List.set_cons_succ]))
            refine ext_nil ?_
            obtain ⟨y5, hy5⟩ : ∃ y5, y4 ++ uv bk = y5 := ⟨_, rfl⟩
            have hyl5 : y5.length ≤ 110 := by rw [← hy5, List.length_append]; omega
            rw [hy5] at HP HOD
            clear hy5
            have k17 := (HBq.out.ext HXD.out).cell 17 (v := .int .u64 (l.sum.toNat : Nat)) rfl
            have k18 := (HBq.out.ext HXD.out).cell 18 (v := .int .u64 (l.root.toNat : Nat)) rfl
            have hgl := (HBq.out.ext HXD.out).lt
            go_upto_region 16 with fail
            refine wp_region_ext [(0, true), (1, true), (2, true), (4, true), (5, true), (3, false), (6, false), (7, true)] (by kernel_rfl) (by kernel_rfl) ?_
            iterate 5 (first
             | (refine ext_move rfl rfl (by rfl) (by rfl) ?_; simp only [Act.put, List.setIfInBounds_toArray, List.set_cons_zero, List.set_cons_succ])
             | (refine ext_assign rfl rfl (by rfl) (by rfl) ?_; simp only [Act.put, List.setIfInBounds_toArray, List.set_cons_zero, List.set_cons_succ])
             | (refine ext_pick_t rfl rfl (by rfl) (by rfl) (by rfl) ?_; simp only [Act.put, List.setIfInBounds_toArray, List.set_cons_zero, List.set_cons_succ])
             | (refine ext_pick_f rfl rfl (by rfl) (by rfl) (by rfl) ?_; simp only [Act.put, List.setIfInBounds_toArray, List.set_cons_zero, List.set_cons_succ])
             | (apply ext_take rfl (by rfl)
                · intro w' hS
                  have hSc := hS.cells
                  (try simp only [World.size_drew, World.cell?_drew] at hSc)
                  go_simp
                  (try simp (disch := omega) only [i64_id, u64_id, ↓IntWalk.iteOmega, Int.tdiv_eq_ediv_of_nonneg, Int.tmod_eq_emod_of_nonneg])
                  try rfl
                simp only [Act.put, List.setIfInBounds_toArray, List.set_cons_zero, List.set_cons_succ])
             | (refine ext_pass rfl (by rfl) ?_; simp only [Act.put, List.setIfInBounds_toArray, List.set_cons_zero, List.set_cons_succ]))
            refine ext_do rfl (by rfl) (fun K hK => ?_)
            go_simp
            go_at_call 47
            refine (rappendUint_any _ y5 l.sum.toNat _ (by omega) H64.out.2.2.2.1 (HOD.out.ext (Ext.drew _))).mono ?_
            rintro e we ⟨ve, rfl, hoe, hxe⟩
            have HOE := Lib.hid (OwnB.slice hoe)
            have HXE : Hid (Ext wd we) := Ext.trans (Ext.drew _) hxe
            obtain ⟨y6, hy6⟩ : ∃ y6, y5 ++ uv l.sum.toNat = y6 := ⟨_, rfl⟩
            have hyl6 : y6.length ≤ 120 := by rw [← hy6, List.length_append]; omega
            rw [hy6] at HP HOE
            refine hK _ _ HXE.out ?_
            clear hK K hoe hxe hy6
            (try simp only [Act.put, List.setIfInBounds_toArray, List.set_cons_zero, List.set_cons_succ])
            refine ext_do rfl (by rfl) (fun K hK => ?_)
            go_simp
            go_at_call 47
            refine (rappendUint_any _ y6 l.root.toNat _ (by omega) H64.out.2.2.2.2 HOE.out).mono ?_
            rintro e wf ⟨vf, rfl, hof, hxf⟩
            have HOF := Lib.hid (OwnB.slice hof)
            have HXF : Hid (Ext w wf) := Ext.trans HXw4.out (Ext.trans HXD.out (Ext.trans HXE.out hxf))
            refine hK _ _ hxf ?_
            clear hK K hof hxf
            (try simp only [Act.put, List.setIfInBounds_toArray, List.set_cons_zero, List.set_cons_succ])
            (first
             | (refine ext_move rfl rfl (by rfl) (by rfl) ?_; simp only [Act.put, List.setIfInBounds_toArray, List.set_cons_zero, List.set_cons_succ])
             | (refine ext_assign rfl rfl (by rfl) (by rfl) ?_; simp only [Act.put, List.setIfInBounds_toArray, List.set_cons_zero, List.set_cons_succ])
             | (refine ext_pick_t rfl rfl (by rfl) (by rfl) (by rfl) ?_; simp only [Act.put, List.setIfInBounds_toArray, List.set_cons_zero, List.set_cons_succ])
             | (refine ext_pick_f rfl rfl (by rfl) (by rfl) (by rfl) ?_; simp only [Act.put, List.setIfInBounds_toArray, List.set_cons_zero, List.set_cons_succ])
             | (apply ext_take rfl (by rfl)
                · intro w' hS
                  have hSc := hS.cells
                  (try simp only [World.size_drew, World.cell?_drew] at hSc)
                  go_simp
                  (try simp (disch := omega) only [i64_id, u64_id, ↓IntWalk.iteOmega, Int.tdiv_eq_ediv_of_nonneg, Int.tmod_eq_emod_of_nonneg])
                  try rfl
                simp only [Act.put, List.setIfInBounds_toArray, List.set_cons_zero, List.set_cons_succ])
             | (refine ext_pass rfl (by rfl) ?_; simp only [Act.put, List.setIfInBounds_toArray, List.set_cons_zero, List.set_cons_succ]))
            refine ext_nil ?_
            go_wp2_with fail
            go_ret
            exact ⟨_, rfl, by rw [HP.out]; exact HOF.out, HXF.out⟩
end Go.Proofs.Ythjcdikpomlpmaa
