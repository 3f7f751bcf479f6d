/-
  Part 9 of the proof.
-/
import Derived.Deep.MidRow
import Derived.Laws.CopyOwn
import Derived.Test.YtjabgpejmnpamaaGreatDoorY07
set_option linter.unusedVariables false
namespace Go.Proofs.YtjabgpejmnpamaaGreatDoor
open Go.RowKit
def labHead (l : Lab) : Bool := decide (0 ≤ l.disk ∧ l.disk < l.c.d ∧ 1 ≤ un l.gen ∧ un l.gen ≤ 4294967295 ∧ un l.prev < un l.gen)
def validL (l : Lab) (ds : List Bool) : Bool := cfgB l.c && labHead l && decide ((ds.length : Int) = l.c.d ∧ deadN ds ds.length ≤ 3 ∧ ds.getD l.disk.toNat true = false ∧ 0 ≤ l.blob ∧ l.blob ≤ 1048576)
set_option maxRecDepth 100000 in
set_option maxHeartbeats 2000000 in
theorem valid_head (l : Lab) (dv : Value) (n : Nat) (ad : Option Addr) (cap : Nat) (w : World) (hv : dv = .slice ad n cap) (hno : (cfgB l.c && labHead l) = false) :
    Calls Tryz.prog 30 #[labV l dv] w (CfgEnd w false) := by
  subst hv
  have HC := Lib.hid (config_any l.c)
  obtain ⟨X, hX⟩ : ∃ X, cfgB l.c = X := ⟨_, rfl⟩
  rw [hX] at HC hno
  have hcond : X = false ∨ X = true ∧ (decide (l.disk < 0) = true ∨ decide (l.disk < 0) = false ∧ (decide (l.c.d ≤ l.disk) = true ∨ decide (l.c.d ≤ l.disk) = false ∧ (decide (un l.gen < 1) = true ∨ decide (un l.gen < 1) = false ∧ (decide (4294967295 < un l.gen) = true ∨ decide (4294967295 < un l.gen) = false ∧ decide (un l.gen ≤ un l.prev) = true)))) := by
    cases X with
    | false => exact .inl rfl
    | true =>
      right
      rw [Bool.true_and] at hno
      unfold labHead at hno
      rw [decide_eq_false_iff_not] at hno
      simp only [decide_eq_true_eq, decide_eq_false_iff_not, true_and]
      omega
  clear hno hX
  obtain ⟨array, disk, gen, prev, ⟨d, ww, t, s, r, b, k, cc, o, a, g⟩, blob, sum, root⟩ := l
  simp only at hcond HC
  rcases hcond with rfl | ⟨rfl, e1 | ⟨e1, e2 | ⟨e2, e3 | ⟨e3, e4 | ⟨e4, e5⟩⟩⟩⟩⟩
  all_goals
    go_enter Tryz.func30, Tryz.ntmps30
    go_wp2_with fail
    go_at_call 69
    refine (HC.out _).mono ?_
    rintro e w2 ⟨rfl, hb2⟩
    have HBX := (BoxAt.new w (labA ⟨array, disk, gen, prev, ⟨d, ww, t, s, r, b, k, cc, o, a, g⟩, blob, sum, root⟩ (.slice ad n cap)) 29).ext hb2
    have hx2 : Ext w w2 := (Ext.alloc _ _).trans hb2
    have c1 := HBX.cell 1 (v := .int .i64 disk) rfl
    have c2 := HBX.cell 2 (v := encU gen) rfl
    have c3 := HBX.cell 3 (v := encU prev) rfl
    have c4 := HBX.cell 4 (v := .int .i64 d) rfl
    have hlt := HBX.lt
    clear hb2 HBX
    go_wp2_with fail
    go_ret
    exact ⟨rfl, hx2⟩
end Go.Proofs.YtjabgpejmnpamaaGreatDoor

namespace Go.Proofs.YtjabgpejmnpamaaGreatDoor
open Go.RowKit
def LabAt (w : World) (g o : Nat) (l : Lab) (d : Value) : Prop := w.rangeAt g o (labA l d).toList ∧ g < w.heap.size
theorem LabAt.ext {w w' : World} {g o : Nat} {l : Lab} {d : Value} (h : LabAt w g o l d) (e : Ext w w') : LabAt w' g o l d :=
  ⟨fun j v hv => by rw [Below.cell (p := ⟨g, o + j, none⟩) e h.2]; exact h.1 j v hv, Nat.lt_of_lt_of_le h.2 e.size⟩
theorem LabAt.of_box {w : World} {g : Nat} {l : Lab} {d : Value} {t : TypeId} (h : BoxAt w g (labA l d) t) : LabAt w g 0 l d :=
  ⟨fun j v hv => by rw [Nat.zero_add]; exact h.cell j (by simpa using hv), h.lt⟩
theorem LabAt.cell {w : World} {g o : Nat} {l : Lab} {d : Value} (h : LabAt w g o l d) (i : Nat) {v : Value} (hv : (labA l d)[i]? = some v) : w.cell? ⟨g, o + i, none⟩ = some v := h.1 i v (by simpa using hv)
theorem LabAt.cell0 {w : World} {g : Nat} {l : Lab} {d : Value} (h : LabAt w g 0 l d) (i : Nat) {v : Value} (hv : (labA l d)[i]? = some v) : w.cell? ⟨g, i, none⟩ = some v := by
  have := h.cell i hv
  rwa [Nat.zero_add] at this
theorem info_lab : (Tryz.prog.info? 29).map (·.size) = some 19 := by kernel_rfl
theorem LabAt.load {w : World} {g o : Nat} {l : Lab} {d : Value} (h : LabAt w g o l d) :
    (Instr.loadAt 29 (.pointer (some ⟨g, o, none⟩))).run Tryz.prog w = .ok (labV l d) w :=
  run_loadAt_mid w g o _ (labA l d).toList _ h.1 Tryz.underlying29 rfl info_lab
theorem wpList_loadR {P : Program} {ops : Array Oper} {rest : List Oper} {o : Oper} {a : Act} {w : World} {Q : Exit → Act → World → Prop} (ty : TypeId) (x : Operand) (ho : o.op = .load ty x)
    (hw : Region.wanted o (yielded ops a.tmps) = true) {p v : Value} (hx : a.eval x = p) (hl : (Instr.loadAt ty p).run P w = .ok v w)
    (h : wpList P ops Q rest (a.put o.dst v) w) : wpList P ops Q (o :: rest) a w := by
  refine wpList_step fun K hK => ?_
  rw [if_pos hw]
  unfold Oper.wp execOp
  simp only [ho, hx, Sem.run_bind, Sem.run_pure, Result.andThen_ok, hl]
  exact hK _ _ h
end Go.Proofs.YtjabgpejmnpamaaGreatDoor

namespace Go.Proofs.YtjabgpejmnpamaaGreatDoor
open Go.RowKit
attribute [local go_sem] wrapI_ub wrap8_ub unsigned8 xor_ub
theorem infoR : (Tryz.prog.info? 47).map (fun i => (i.zero, i.size, i.bytes)) = some (some (.slice none 0 0), 1, 24) := by kernel_rfl
def filled {α : Type} (z : α) (F : List α) (k : Nat) : List α := F.take k ++ List.replicate (F.length - k) z
theorem filled_len {α : Type} {z : α} {F : List α} {k : Nat} (h : k ≤ F.length) : (filled z F k).length = F.length := by unfold filled; simp; omega
theorem filled_next {α : Type} {z : α} {F : List α} {k : Nat} (h : k < F.length) : (filled z F k).set k F[k] = filled z F (k + 1) := by
  unfold filled
  rw [List.set_append_right _ _ (by simp; omega), List.length_take, Nat.min_eq_left (by omega), Nat.sub_self]
  obtain ⟨r, hr⟩ : ∃ r, F.length - k = r + 1 := ⟨F.length - k - 1, by omega⟩
  rw [hr, List.replicate_succ, List.set_cons_zero, List.take_succ_eq_append_getElem h, show F.length - (k + 1) = r by omega, List.append_assoc]
  rfl
theorem filled_all {α : Type} {z : α} {F : List α} : filled z F F.length = F := by unfold filled; simp
theorem filled_all' {α : Type} {z : α} {F : List α} {n : Nat} (h : F.length = n) : filled z F n = F := by subst h; exact filled_all
theorem filled_at {α : Type} {z : α} {F : List α} {k : Nat} (hk : k < (filled z F k).length) : (filled z F k)[k] = z := by
  unfold filled at hk ⊢
  rw [List.getElem_append_right (by simp; omega), List.getElem_replicate]
theorem OwnG.madeG {α : Type} {enc : α → Value} {z : α} (w : World) (n base : Nat) (e : TypeId) (hb : base ≤ w.heap.size) (hm : n ≤ maxLen) : OwnG enc e (w.alloc (.cells (madeCells #[enc z] n) e)) base (.slice (some ⟨w.heap.size, 0, none⟩) n n) (List.replicate n z) := by
  have hc : madeCells #[enc z] n = ((List.replicate n z).map enc).toArray := by
    obtain ⟨c, h, hs, hc⟩ := World.rowIs_made w (enc z) n e
    have h2 : (w.alloc (.cells (madeCells #[enc z] n) e)).heap[w.heap.size]? = some (.cells (madeCells #[enc z] n) e (0, 0)) := heap_alloc_new _ _
    rw [h2] at h
    injection h with h
    injection h with h _ _
    subst h
    refine Array.ext_getElem? fun i => ?_
    by_cases hi : i < n
    · rw [hc i hi]; simp [hi]
    · rw [Array.getElem?_eq_none (by omega)]; simp; omega
  have := OwnG.lit (enc := enc) w (List.replicate n z) e base hb (by rw [List.length_replicate]; exact hm) _ hc
  rwa [List.length_replicate] at this
theorem filled_zero {α : Type} {z : α} {F : List α} : filled z F 0 = List.replicate F.length z := by unfold filled; simp
set_option maxHeartbeats 1000000 in
theorem fused_any (vd vs : Value) (xs ys : List (BitVec 8)) (c : BitVec 8) (w : World) (hl : xs.length ≤ 1000) (he : ys.length = xs.length) (hd : SliceAt encB w vd xs) (hs : SliceAt encB w vs ys) :
    Calls Tryz.prog 197 #[vd, vs, encB c] w fun e w' => e = .returned (.tuple #[.slice (some ⟨w.heap.size, 0, none⟩) xs.length xs.length, .int .i64 0]) ∧
      OwnG encB 5 w' w.heap.size (.slice (some ⟨w.heap.size, 0, none⟩) xs.length xs.length) (fusedG xs ys c) ∧ Ext w w' := by
  obtain ⟨ad, cd, rfl⟩ := hd.shape
  obtain ⟨as_, cs, rfl⟩ := hs.shape
  have HD := Lib.hid hd
  have HS := Lib.hid hs
  have HL := Lib.hid (fusedG_length xs ys c he.symm)
  have HG := Lib.hid (fusedG_get xs ys c)
  have HEQ := Lib.hid he
  obtain ⟨n, hn⟩ : ∃ n, xs.length = n := ⟨_, rfl⟩
  have HN := Lib.hid hn
  rw [he] at HS ⊢
  rw [hn] at hl HD HS HL HEQ ⊢
  clear hd hs he hn
  have hmk : ∀ w : World, (Instr.makeSlice 47 (.int .i64 (n : Int)) (.int .i64 (n : Int))).run Tryz.prog w = .ok (.slice (some ⟨w.heap.size, 0, none⟩) n n) (w.alloc (.cells (madeCells #[.int .u8 0] n) 5)) :=
    run_make_row' 47 5 (.int .u8 0) 1 Tryz.underlying47 infoB rfl .i64 .i64 n (by omega) (by first | omega | (unfold maxLen; omega))
  go_enter Tryz.func197, Tryz.ntmps197
  go_wp2
  have HO1 : Hid (OwnG encB 5 (w.alloc (.cells (madeCells #[.int .u8 0] n) 5)) w.heap.size (.slice (some ⟨w.heap.size, 0, none⟩) n n) (filled 0#8 (fusedG xs ys c) 0)) := by
    rw [filled_zero, HL.out]; exact OwnG.madeG (enc := encB) (z := 0#8) w n w.heap.size _ (Nat.le_refl _) (by unfold maxLen; omega)
  have HX1 : Hid (Ext w (w.alloc (.cells (madeCells #[.int .u8 0] n) 5))) := Ext.alloc _ _
  have hsz : w.heap.size < (w.alloc (.cells (madeCells #[.int .u8 0] n) 5)).heap.size := by simp
  obtain ⟨g, hg⟩ : ∃ g, w.heap.size = g := ⟨_, rfl⟩
  have HGG := Lib.hid hg
  generalize (w.alloc (.cells (madeCells #[.int .u8 0] n) 5)) = w1 at *
  rw [hg] at HO1 hsz ⊢
  clear hg hmk
  go_loopw [20] (fun it wr => ∃ k : Nat, k ≤ n ∧ it = .int .i64 k ∧ Hid (OwnG encB 5 wr g (.slice (some ⟨g, 0, none⟩) n n) (filled 0#8 (fusedG xs ys c) k)) ∧ Hid (Ext w wr) ∧ g < wr.heap.size) (fun it _ => n - (intOf it).toNat)
  case atStart => exact ⟨0, Nat.zero_le _, rfl, HO1, HX1, hsz⟩
  case round =>
    obtain ⟨k, hk, rfl, HO, HX, hgs⟩ := hrel
    by_cases hlt : k < n
    · have hkI : (k : Int) < (n : Int) := by omega
      have h1 : k < xs.length := by rw [HN.out]; exact hlt
      have h2 : k < ys.length := by rw [HEQ.out]; exact hlt
      have h3 : k < (fusedG xs ys c).length := by rw [HL.out]; exact hlt
      have hfl := filled_len (z := 0#8) (Nat.le_of_lt h3)
      have h4 : k < (filled 0#8 (fusedG xs ys c) k).length := by rw [hfl]; exact h3
      have hpu := (HO.out.put (by rw [hfl, HL.out]) k ((fusedG xs ys c)[k]))
      rw [filled_next h3, HG.out k h1 h2 h3] at hpu
      have HP := Lib.hid hpu
      have hcg : wr.cell? ⟨g, k, none⟩ = some (encB 0#8) := by
        have := HO.out.at (by rw [hfl, HL.out]) h4
        rwa [filled_at] at this
      have hfg := HO.out.frees (by rw [hfl, HL.out]) k
      obtain ⟨bd, od, rfl, hbd, hcd⟩ := (HD.out.ext HX.out).get k h1
      obtain ⟨bs, os, rfl, hbs, hcs⟩ := (HS.out.ext HX.out).get k h2
      have HXE : Hid (Ext w (wr.setCell ⟨g, k, none⟩ (encB (xs[k] ^^^ mulG c ys[k])))) := HX.out.setOwn (by rw [HGG.out]; exact Nat.le_refl _)
      generalize xs[k] = x at *
      generalize ys[k] = y at *
      clear hfl h1 h2 h3 h4 hpu
      go_wp2_with fail
      refine wp_region_ext [(0, true), (1, true), (2, true), (3, true), (4, true), (5, true), (6, true), (7, true), (8, true), (9, true), (10, true), (11, false), (12, true), (13, true), (14, false)] (by kernel_rfl) (by kernel_rfl) ?_
      iterate 11 ((first
       | refine ext_move rfl rfl (by rfl) (by rfl) ?_
       | refine ext_assign rfl rfl (by rfl) (by rfl) ?_
       | refine ext_pick_t rfl rfl (by rfl) (by rfl) (by rfl) ?_
       | refine ext_pick_f rfl rfl (by rfl) (by rfl) (by rfl) ?_
       | (apply ext_take rfl (by rfl)
          · intro w' hS
            have hSc := hS.cells
            (try simp only [World.size_drew, World.cell?_drew] at hSc)
            go_simp
            (try simp (disch := omega) only [i64_id, u64_id, ↓IntWalk.iteOmega, Int.tdiv_eq_ediv_of_nonneg, Int.tmod_eq_emod_of_nonneg])
            try rfl)
       | refine ext_pass rfl (by rfl) ?_); simp only [Act.put, setZa, setZ0, setZ1])
      (refine ext_do rfl (by rfl) (fun K hK => ?_)
       go_simp
       go_at_call 142
       refine (gmul_any c y _).mono ?_
       rintro e w' ⟨rfl, rfl⟩
       refine hK _ _ (by first | (with_reducible exact Ext.refl _) | (with_reducible exact Ext.drew _)) ?_
       clear hK K
       (try simp only [Act.put, setZa, setZ0, setZ1]))
      iterate 2 ((first
       | refine ext_move rfl rfl (by rfl) (by rfl) ?_
       | refine ext_assign rfl rfl (by rfl) (by rfl) ?_
       | refine ext_pick_t rfl rfl (by rfl) (by rfl) (by rfl) ?_
       | refine ext_pick_f rfl rfl (by rfl) (by rfl) (by rfl) ?_
       | (apply ext_take rfl (by rfl)
          · intro w' hS
            have hSc := hS.cells
            (try simp only [World.size_drew, World.cell?_drew] at hSc)
            go_simp
            (try simp (disch := omega) only [i64_id, u64_id, ↓IntWalk.iteOmega, Int.tdiv_eq_ediv_of_nonneg, Int.tmod_eq_emod_of_nonneg])
            try rfl)
       | refine ext_pass rfl (by rfl) ?_); simp only [Act.put, setZa, setZ0, setZ1])
      (refine ext_last rfl (by rfl) (by kernel_rfl) (fun K hK => ?_)
       go_simp
       refine hK _ _ ?_
       clear hK K
       (try simp only [Act.put, setZa, setZ0, setZ1]))
      go_wp2_with fail
      go_roundw
      case rel => exact ⟨k + 1, by omega, by go_num, HP.out.ext (Ext.drew _), HXE.out.trans (Ext.drew _), by simpa using hgs⟩
      case measure => simp [intOf]; omega
    · have hkn : k = n := by omega
      subst hkn
      have HF := HO.out
      rw [filled_all' HL.out] at HF
      have HF2 := Lib.hid HF
      clear HF
      go_wp2_with fail
      go_ret2
      rw [HGG.out]
      exact ⟨rfl, HF2.out, HX.out⟩
theorem madeCells_eq {α : Type} (enc : α → Value) (z : α) (n : Nat) (e : TypeId) (w : World) : madeCells #[enc z] n = ((List.replicate n z).map enc).toArray := by
  obtain ⟨c, h, hs, hc⟩ := World.rowIs_made w (enc z) n e
  have h2 : (w.alloc (.cells (madeCells #[enc z] n) e)).heap[w.heap.size]? = some (.cells (madeCells #[enc z] n) e (0, 0)) := heap_alloc_new _ _
  rw [h2] at h
  injection h with h
  injection h with h _ _
  subst h
  refine Array.ext_getElem? fun i => ?_
  by_cases hi : i < n
  · rw [hc i hi]; simp [hi]
  · rw [Array.getElem?_eq_none (by omega)]; simp; omega
def RowB (w : World) (g : Nat) (l : List (BitVec 8)) : Prop := BoxAt w g ((l.map encB).toArray) 5
theorem RowB.ext {w w' : World} {g : Nat} {l : List (BitVec 8)} (h : RowB w g l) (e : Ext w w') : RowB w' g l := BoxAt.ext h e
theorem RowB.lt {w : World} {g : Nat} {l : List (BitVec 8)} (h : RowB w g l) : g < w.heap.size := BoxAt.lt h
theorem RowB.cell {w : World} {g : Nat} {l : List (BitVec 8)} (h : RowB w g l) (i : Nat) (hi : i < l.length) : w.cell? ⟨g, i, none⟩ = some (encB l[i]) := BoxAt.cell h i (by simp [hi])
theorem RowB.free {w : World} {g : Nat} {l : List (BitVec 8)} (h : RowB w g l) (i : Nat) : w.frozen? ⟨g, i, none⟩ = false := BoxAt.free h i
theorem RowB.put {w : World} {g : Nat} {l : List (BitVec 8)} (h : RowB w g l) (k : Nat) (x : BitVec 8) : RowB (w.setCell ⟨g, k, none⟩ (encB x)) g (l.set k x) := by
  have := BoxAt.set h k (encB x)
  unfold RowB
  rw [List.map_set]
  simpa using this
theorem RowB.off {w : World} {g b : Nat} {l : List (BitVec 8)} (h : RowB w g l) (hb : g ≠ b) (k : Nat) (v : Value) : RowB (w.setCell ⟨b, k, none⟩ v) g l := BoxAt.set_off h hb k v
theorem RowB.made (w : World) (n : Nat) : RowB (w.alloc (.cells (madeCells #[.int .u8 0] n) 5)) w.heap.size (List.replicate n 0#8) := by
  unfold RowB
  rw [← madeCells_eq encB 0#8 n 5 w]
  exact BoxAt.new _ _ _
theorem RowB.slice {w : World} {g n : Nat} {l : List (BitVec 8)} (h : RowB w g l) (hl : l.length = n) (hm : n ≤ maxLen) : SliceAt encB w (.slice (some ⟨g, 0, none⟩) n n) l := by
  subst hl
  refine ⟨some ⟨g, 0, none⟩, l.length, rfl, Nat.le_refl _, .inr ⟨g, 0, rfl, h.lt, fun k hk => ?_⟩⟩
  have := h.cell k hk
  simpa using this
abbrev blankV (g c i : Nat) : Value := .slice (some ⟨g + 1 + i, 0, none⟩) c c
theorem range_len (r g c : Nat) : ((List.range r).map (blankV g c)).length = r := by simp
set_option maxHeartbeats 1000000 in
theorem blank_any (r c : Nat) (w : World) (hr : r ≤ 64) (hc : c ≤ 128) :
    Calls Tryz.prog 193 #[.int .i64 r, .int .i64 c] w fun e w' => e = .returned (.slice (some ⟨w.heap.size, 0, none⟩) r r) ∧
      OwnG id 47 w' w.heap.size (.slice (some ⟨w.heap.size, 0, none⟩) r r) ((List.range r).map (blankV w.heap.size c)) ∧
      (∀ i, i < r → RowB w' (w.heap.size + 1 + i) (List.replicate c 0#8)) ∧ w'.heap.size = w.heap.size + 1 + r ∧ Ext w w' := by
  have hmk : ∀ w : World, (Instr.makeSlice 47 (.int .i64 (c : Int)) (.int .i64 (c : Int))).run Tryz.prog w = .ok (.slice (some ⟨w.heap.size, 0, none⟩) c c) (w.alloc (.cells (madeCells #[.int .u8 0] c) 5)) :=
    run_make_row' 47 5 (.int .u8 0) 1 Tryz.underlying47 infoB rfl .i64 .i64 c (by omega) (by first | omega | (unfold maxLen; omega))
  have hmr : ∀ w : World, (Instr.makeSlice 33 (.int .i64 (r : Int)) (.int .i64 (r : Int))).run Tryz.prog w = .ok (.slice (some ⟨w.heap.size, 0, none⟩) r r) (w.alloc (.cells (madeCells #[.slice none 0 0] r) 47)) :=
    run_make_row' 33 47 (.slice none 0 0) 24 Tryz.underlying33 infoR rfl .i64 .i64 r (by omega) (by first | omega | (unfold maxLen; omega))
  have HL := Lib.hid (range_len r w.heap.size c)
  have hgi : ∀ i (h : i < ((List.range r).map (blankV w.heap.size c)).length), ((List.range r).map (blankV w.heap.size c))[i] = blankV w.heap.size c i := fun i h => by simp
  have HGI := Lib.hid hgi
  clear hgi
  go_enter Tryz.func193, Tryz.ntmps193
  go_wp2
  have HO1 : Hid (OwnG id 47 (w.alloc (.cells (madeCells #[.slice none 0 0] r) 47)) w.heap.size (.slice (some ⟨w.heap.size, 0, none⟩) r r) (filled (.slice none 0 0) ((List.range r).map (blankV w.heap.size c)) 0)) := by
    rw [filled_zero, HL.out]; exact OwnG.madeG (enc := id) (z := .slice none 0 0) w r w.heap.size _ (Nat.le_refl _) (by unfold maxLen; omega)
  have HX1 : Hid (Ext w (w.alloc (.cells (madeCells #[.slice none 0 0] r) 47))) := Ext.alloc _ _
  have hsz : (w.alloc (.cells (madeCells #[.slice none 0 0] r) 47)).heap.size = w.heap.size + 1 := by simp
  have HSZ := Lib.hid hsz
  obtain ⟨g, hg⟩ : ∃ g, w.heap.size = g := ⟨_, rfl⟩
  have HGG := Lib.hid hg
  generalize (w.alloc (.cells (madeCells #[.slice none 0 0] r) 47)) = w1 at *
  rw [hg] at HO1 HSZ HL HGI ⊢
  clear hg hmr hsz
  go_loopw [11] (fun it wr => ∃ k : Nat, k ≤ r ∧ it = .int .i64 k ∧ Hid (OwnG id 47 wr g (.slice (some ⟨g, 0, none⟩) r r) (filled (.slice none 0 0) ((List.range r).map (blankV g c)) k)) ∧ Hid (Ext w wr) ∧ Hid (wr.heap.size = g + 1 + k) ∧ Hid (∀ i, i < k → RowB wr (g + 1 + i) (List.replicate c 0#8))) (fun it _ => r - (intOf it).toNat)
  case atStart => exact ⟨0, Nat.zero_le _, rfl, HO1, HX1, HSZ, fun i h => by omega⟩
  case round =>
    obtain ⟨k, hk, rfl, HO, HX, HS, HB⟩ := hrel
    by_cases hlt : k < r
    · have hkI : (k : Int) < (r : Int) := by omega
      have h3 : k < ((List.range r).map (blankV g c)).length := by rw [HL.out]; exact hlt
      have hfl := filled_len (z := Value.slice none 0 0) (Nat.le_of_lt h3)
      have h4 : k < (filled (Value.slice none 0 0) ((List.range r).map (blankV g c)) k).length := by rw [hfl]; exact h3
      have hgl : g < wr.heap.size := by rw [HS.out]; omega
      have hpu := (HO.out.put (by rw [hfl, HL.out]) k (((List.range r).map (blankV g c))[k]))
      rw [filled_next h3, HGI.out k h3] at hpu
      have hss : (wr.setCell ⟨g, k, none⟩ (blankV g c k)).heap.size = wr.heap.size := by simp
      have e2 : Ext (wr.setCell ⟨g, k, none⟩ (blankV g c k)) ((wr.setCell ⟨g, k, none⟩ (blankV g c k)).alloc (.cells (madeCells #[.int .u8 0] c) 5)) := Ext.alloc _ _
      have hnew := RowB.made (wr.setCell ⟨g, k, none⟩ (blankV g c k)) c
      have HP := Lib.hid (OwnG.ext (enc := id) hpu e2)
      have hcg : wr.cell? ⟨g, k, none⟩ = some (Value.slice none 0 0) := by
        have := HO.out.at (by rw [hfl, HL.out]) h4
        rwa [filled_at] at this
      have hfg := HO.out.frees (by rw [hfl, HL.out]) k
      have hsv : (Value.slice (some ⟨wr.heap.size, 0, none⟩) c c) = blankV g c k := by rw [HS.out]
      have HNB : Hid (∀ i, i < k + 1 → RowB ((wr.setCell ⟨g, k, none⟩ (blankV g c k)).alloc (.cells (madeCells #[.int .u8 0] c) 5)) (g + 1 + i) (List.replicate c 0#8)) := by
        intro i hi
        rcases Nat.lt_or_ge i k with h | h
        · exact (RowB.off (HB.out i h) (by omega) _ _).ext e2
        · have : i = k := by omega
          subst this
          rw [hss, HS.out] at hnew
          exact hnew
      have HX2 : Hid (Ext w ((wr.setCell ⟨g, k, none⟩ (blankV g c k)).alloc (.cells (madeCells #[.int .u8 0] c) 5))) := (HX.out.setOwn (by rw [HGG.out]; exact Nat.le_refl _)).trans e2
      have HS2 : Hid (((wr.setCell ⟨g, k, none⟩ (blankV g c k)).alloc (.cells (madeCells #[.int .u8 0] c) 5)).heap.size = g + 1 + (k + 1)) := by
        show _ = _
        rw [World.size_alloc, hss, HS.out]
        omega
      have HSV := Lib.hid hsv
      clear hfl h3 h4 hpu hnew hsv e2 hss
      go_wp2
      rw [HSV.out]
      go_roundw
      case rel => exact ⟨k + 1, by omega, by go_num, HP, HX2, HS2, HNB⟩
      case measure => simp [intOf]; omega
    · have hkn : k = r := by omega
      subst hkn
      have HF := HO.out
      rw [filled_all' HL.out] at HF
      have HF2 := Lib.hid HF
      clear HF
      go_wp2_with fail
      go_ret
      rw [HGG.out]
      exact ⟨rfl, HF2.out, HB.out, HS.out, HX.out⟩
end Go.Proofs.YtjabgpejmnpamaaGreatDoor

namespace Go.Proofs.YtjabgpejmnpamaaGreatDoor
open Go.RowKit
attribute [local go_sem] wrapI_ub wrap8_ub unsigned8 xor_ub
def unitL (n i : Nat) : List (BitVec 8) := (List.replicate n 0#8).set i 1#8
theorem unitL_len (n i : Nat) : (unitL n i).length = n := by simp [unitL]
def RowsAt (w : World) (v : Value) (ls : List (List (BitVec 8))) : Prop := ∃ vs : List Value, SliceAt id w v vs ∧ vs.length = ls.length ∧ ∀ i (h1 : i < vs.length) (h2 : i < ls.length), SliceAt encB w vs[i] ls[i]
theorem RowsAt.ext {w w' : World} {v : Value} {ls : List (List (BitVec 8))} (h : RowsAt w v ls) (e : Ext w w') : RowsAt w' v ls := by
  obtain ⟨vs, h1, h2, h3⟩ := h
  exact ⟨vs, h1.ext e, h2, fun i a b => (h3 i a b).ext e⟩
theorem RowsAt.shape {w : World} {v : Value} {ls : List (List (BitVec 8))} (h : RowsAt w v ls) : ∃ a c, v = .slice a ls.length c := by
  obtain ⟨vs, h1, h2, h3⟩ := h
  obtain ⟨a, c, rfl⟩ := h1.shape
  exact ⟨a, c, by rw [h2]⟩
theorem RowsAt.at {w : World} {ad : Option Addr} {n cap : Nat} {ls : List (List (BitVec 8))} (h : RowsAt w (.slice ad n cap) ls) (k : Nat) (hk : k < ls.length) :
    ∃ b off v, ad = some ⟨b, off, none⟩ ∧ b < w.heap.size ∧ w.cell? ⟨b, off + k, none⟩ = some v ∧ SliceAt encB w v ls[k] := by
  obtain ⟨vs, h1, h2, h3⟩ := h
  have hk1 : k < vs.length := by rw [h2]; exact hk
  obtain ⟨b, off, rfl, hb, hc⟩ := h1.get k hk1
  exact ⟨b, off, vs[k], rfl, hb, hc, h3 k hk1 hk⟩
set_option maxHeartbeats 1000000 in
theorem identity_any (n : Nat) (w : World) (h0 : 1 ≤ n) (hn : n ≤ 64) :
    Calls Tryz.prog 190 #[.int .i64 n] w fun e w' => e = .returned (.tuple #[.slice (some ⟨w.heap.size, 0, none⟩) n n, .int .i64 0]) ∧
      OwnG id 47 w' w.heap.size (.slice (some ⟨w.heap.size, 0, none⟩) n n) ((List.range n).map (blankV w.heap.size n)) ∧
      (∀ i, i < n → RowB w' (w.heap.size + 1 + i) (unitL n i)) ∧ Ext w w' := by
  have hI1 : ¬ ((n : Int) < 1) := by omega
  have hI2 : ¬ ((n : Int) > 64) := by omega
  go_enter Tryz.func190, Tryz.ntmps190
  go_wp2_with (go_at_call 193; refine (blank_any n n _ hn (by omega)).mono ?_; rintro e w1 ⟨rfl, hO1, hB1, hS1, hX1⟩; have HO1 := Lib.hid hO1; have HB1 := Lib.hid hB1; have HS1 := Lib.hid hS1; have HX1 := Lib.hid hX1; clear hO1 hB1 hS1 hX1)
  obtain ⟨g, hg⟩ : ∃ g, w.heap.size = g := ⟨_, rfl⟩
  have HGG := Lib.hid hg
  rw [hg] at HO1 HB1 HS1 ⊢
  clear hg
  have hgi : ∀ i (h : i < ((List.range n).map (blankV g n)).length), ((List.range n).map (blankV g n))[i] = blankV g n i := fun i h => by simp
  have HGI := Lib.hid hgi
  have HL := Lib.hid (range_len n g n)
  have HB1' : Hid (∀ i, i < n → RowB w1 (g + 1 + i) (if i < 0 then unitL n i else List.replicate n 0#8)) := by
    intro i hi; rw [if_neg (Nat.not_lt_zero i)]; exact HB1.out i hi
  clear hgi
  go_loopw [17] (fun it wr => ∃ k : Nat, k ≤ n ∧ it = .int .i64 k ∧ Hid (OwnG id 47 wr g (.slice (some ⟨g, 0, none⟩) n n) ((List.range n).map (blankV g n))) ∧ Hid (Ext w wr) ∧ Hid (∀ i, i < n → RowB wr (g + 1 + i) (if i < k then unitL n i else List.replicate n 0#8))) (fun it _ => n - (intOf it).toNat)
  case atStart => exact ⟨0, Nat.zero_le _, rfl, HO1, HX1, HB1'⟩
  case round =>
    obtain ⟨k, hk, rfl, HO, HX, HB⟩ := hrel
    by_cases hlt : k < n
    · have hkI : (k : Int) < (n : Int) := by omega
      have h3 : k < ((List.range n).map (blankV g n)).length := by rw [HL.out]; exact hlt
      have hca : wr.cell? ⟨g, k, none⟩ = some (.slice (some ⟨g + 1 + k, 0, none⟩) n n) := by
        have := HO.out.at (by rw [HL.out]) h3
        rwa [HGI.out k h3] at this
      have hrow := HB.out k hlt
      rw [if_neg (Nat.lt_irrefl k)] at hrow
      have hcb : wr.cell? ⟨g + 1 + k, k, none⟩ = some (encB 0#8) := by
        have := hrow.cell k (by simpa using hlt)
        rwa [List.getElem_replicate] at this
      have hfb := hrow.free k
      have hgl : g + 1 + k < wr.heap.size := hrow.lt
      have hgl2 : g < wr.heap.size := by omega
      have HOn : Hid (OwnG id 47 (wr.setCell ⟨g + 1 + k, k, none⟩ (encB 1#8)) g (.slice (some ⟨g, 0, none⟩) n n) ((List.range n).map (blankV g n))) := HO.out.off (by simp [Value.ownBlock]; omega) _ _
      have HXn : Hid (Ext w (wr.setCell ⟨g + 1 + k, k, none⟩ (encB 1#8))) := HX.out.setOwn (by rw [HGG.out]; omega)
      have HBn : Hid (∀ i, i < n → RowB (wr.setCell ⟨g + 1 + k, k, none⟩ (encB 1#8)) (g + 1 + i) (if i < k + 1 then unitL n i else List.replicate n 0#8)) := by
        intro i hi
        by_cases hik : i = k
        · subst hik
          rw [if_pos (by omega)]
          exact hrow.put i 1#8
        · have := (HB.out i hi).off (b := g + 1 + k) (by omega) k (encB 1#8)
          rcases Nat.lt_or_ge i k with h | h
          · rw [if_pos h] at this; rw [if_pos (by omega)]; exact this
          · rw [if_neg (by omega)] at this; rw [if_neg (by omega)]; exact this
      clear h3 hrow
      go_wp2
      go_roundw
      case rel => exact ⟨k + 1, by omega, by go_num, HOn, HXn, HBn⟩
      case measure => simp [intOf]; omega
    · have hkn : k = n := by omega
      subst hkn
      have HB2 : Hid (∀ i, i < k → RowB wr (g + 1 + i) (unitL k i)) := by
        intro i hi; have := HB.out i hi; rwa [if_pos hi] at this
      go_wp2_with fail
      go_ret2
      rw [HGG.out]
      exact ⟨rfl, HO.out, HB2.out, HX.out⟩
def AllLen (m : Nat) (ls : List (List (BitVec 8))) : Prop := ∀ i (h : i < ls.length), ls[i].length = m
set_option maxHeartbeats 1000000 in
theorem mvalid_any (v : Value) (ls : List (List (BitVec 8))) (m : Nat) (w : World) (h0 : 1 ≤ ls.length) (hn : ls.length ≤ 64) (hm0 : 1 ≤ m) (hm : m ≤ 64) (hall : AllLen m ls) (h : RowsAt w v ls) :
    Calls Tryz.prog 192 #[v] w fun e w' => e = .returned (.bool true) ∧ Ext w w' := by
  obtain ⟨a, c, rfl⟩ := h.shape
  have hl0 := hall 0 (by omega)
  obtain ⟨b, off, v0, rfl, hb, hc0, hs0⟩ := h.at 0 (by omega)
  obtain ⟨a0, c0, rfl⟩ := hs0.shape
  rw [hl0] at hc0
  rw [Nat.add_zero] at hc0
  have HR := Lib.hid h
  have HA := Lib.hid hall
  obtain ⟨n, hnn⟩ : ∃ n, ls.length = n := ⟨_, rfl⟩
  have HN := Lib.hid hnn
  rw [hnn] at h0 hn HR ⊢
  clear h hall hs0 hl0 hnn
  have i1 : ¬ ((n : Int) < 1) := by omega
  have i2 : ¬ ((n : Int) > 64) := by omega
  have i3 : ¬ ((m : Int) < 1) := by omega
  have i4 : ¬ ((m : Int) > 64) := by omega
  have i5 : (0 : Int) < (n : Int) := by omega
  go_enter Tryz.func192, Tryz.ntmps192
  go_wp2
  go_loopw [29] (fun it wr => ∃ k : Nat, k ≤ n ∧ it = .int .i64 k ∧ Ext w wr) (fun it _ => n - (intOf it).toNat)
  case atStart => exact ⟨0, Nat.zero_le _, rfl, Ext.refl _⟩
  case round =>
    obtain ⟨k, hk, rfl, hX⟩ := hrel
    have hc1 : wr.cell? ⟨b, off, none⟩ = some (.slice a0 m c0) := (Below.cell hX (p := ⟨b, off, none⟩) hb).trans hc0
    by_cases hlt : k < n
    · have hkI : (k : Int) < (n : Int) := by omega
      obtain ⟨b', off', vk, he, hb2, hck, hsk⟩ := HR.out.at k (by rw [HN.out]; exact hlt)
      injection he with he
      injection he with he1 he2
      subst he1 he2
      obtain ⟨ak, ck, rfl⟩ := hsk.shape
      have hlk := HA.out k (by rw [HN.out]; exact hlt)
      rw [hlk] at hck
      have hck1 : wr.cell? ⟨b, off + k, none⟩ = some (.slice ak m ck) := (Below.cell hX (p := ⟨b, off + k, none⟩) hb).trans hck
      have HX := Lib.hid hX
      clear hsk hlk hck hc0 hX
      go_wp2
      go_roundw
      case rel => exact ⟨k + 1, by omega, by go_num, HX.out⟩
      case measure => simp [intOf]; omega
    · have hkI : ¬ ((k : Int) < (n : Int)) := by omega
      go_wp2_with fail
      go_ret
      exact ⟨rfl, hX⟩
end Go.Proofs.YtjabgpejmnpamaaGreatDoor

namespace Go.Proofs.YtjabgpejmnpamaaGreatDoor
open Go.RowKit
attribute [local go_sem] wrapI_ub wrap8_ub unsigned8 xor_ub
theorem w64_small (x : Int) (h : -9223372036854775808 ≤ x ∧ x ≤ 9223372036854775807) : Go.RowKit.wrap64 x = x := by unfold Go.RowKit.wrap64; omega
abbrev rowV (g : Nat) (l : List (BitVec 8)) : Value := .slice (some ⟨g, 0, none⟩) l.length l.length
def IsRow (w : World) (v : Value) (l : List (BitVec 8)) : Prop := ∃ g, v = rowV g l ∧ RowB w g l ∧ l.length ≤ maxLen
theorem IsRow.ext {w w' : World} {v : Value} {l : List (BitVec 8)} (h : IsRow w v l) (e : Ext w w') : IsRow w' v l := by
  obtain ⟨g, hv, h, hm⟩ := h
  exact ⟨g, hv, h.ext e, hm⟩
theorem IsRow.grown {w w' : World} {v u : Value} {l : List (BitVec 8)} {base : Nat} {us : List Value} (h : IsRow w v l) (ho : OwnG id 47 w base u us) (hg : w.grownBy w' u.ownBlock) : IsRow w' v l := by
  obtain ⟨g, hv, h, hm⟩ := h
  exact ⟨g, hv, BoxAt.grown h hg (fun e => ho.not_box h (by decide) e.symm), hm⟩
def RowsOwn (w : World) (base : Nat) (v : Value) (ls : List (List (BitVec 8))) : Prop := ∃ vs : List Value, OwnG id 47 w base v vs ∧ vs.length = ls.length ∧ ∀ i (h1 : i < vs.length) (h2 : i < ls.length), IsRow w vs[i] ls[i]
theorem RowsOwn.nil (w : World) (base : Nat) : RowsOwn w base (.slice none 0 0) [] := ⟨[], OwnG.nil, rfl, fun i h _ => absurd h (by simp)⟩
theorem rows_append {w : World} {vs us : List Value} {ls ks : List (List (BitVec 8))} (hl : vs.length = ls.length) (hk : us.length = ks.length)
    (h : ∀ i (h1 : i < vs.length) (h2 : i < ls.length), IsRow w vs[i] ls[i]) (k : ∀ i (h1 : i < us.length) (h2 : i < ks.length), IsRow w us[i] ks[i]) :
    ∀ i (h1 : i < (vs ++ us).length) (h2 : i < (ls ++ ks).length), IsRow w (vs ++ us)[i] (ls ++ ks)[i] := by
  intro j a b
  rw [List.length_append] at a b
  by_cases hj : j < vs.length
  · have hj2 : j < ls.length := by rw [← hl]; exact hj
    rw [List.getElem_append_left hj, List.getElem_append_left hj2]
    exact h j hj hj2
  · rw [List.getElem_append_right (by omega), List.getElem_append_right (by omega)]
    simp only [hl]
    exact k _ (by omega) (by omega)
theorem rows_snoc {w : World} {vs : List Value} {ls : List (List (BitVec 8))} {x : Value} {l : List (BitVec 8)} (hl : vs.length = ls.length)
    (h : ∀ i (h1 : i < vs.length) (h2 : i < ls.length), IsRow w vs[i] ls[i]) (hx : IsRow w x l) :
    ∀ i (h1 : i < (vs ++ [x]).length) (h2 : i < (ls ++ [l]).length), IsRow w (vs ++ [x])[i] (ls ++ [l])[i] :=
  rows_append hl rfl h (fun i h1 h2 => by
    have : i = 0 := by simpa using h1
    subst this
    exact hx)
theorem possible_any (n : Nat) (h1 : 3 < n) (h2 : n ≤ 16) (w : World) :
    Calls Tryz.prog 96 #[.int .i64 n] w fun e w' => e = .returned (.bool true) ∧ w = w' := by
  have i1 : (3 : Int) < (n : Int) := by omega
  have i2 : (n : Int) ≤ 16 := by omega
  go_enter Tryz.func96, Tryz.ntmps96
  go_wp2
  go_ret
  exact ⟨rfl, rfl⟩
def parL (d j : Nat) : List (BitVec 8) := (List.range d).map (fun i => expG (i * j))
theorem parL_len (d j : Nat) : (parL d j).length = d := by simp [parL]
theorem parL_get (d j k : Nat) (h : k < (parL d j).length) : (parL d j)[k] = expG (k * j) := by simp [parL]
def parM (d : Nat) : List (List (BitVec 8)) := (List.range 3).map (parL d)
theorem range_succ_map {α : Type} (f : Nat → α) (k : Nat) : (List.range (k + 1)).map f = (List.range k).map f ++ [f k] := by rw [List.range_succ, List.map_append]; rfl
set_option maxHeartbeats 1000000 in
theorem matrix_any (d : Nat) (w : World) (h0 : 1 ≤ d) (hn : d ≤ 13) :
    Calls Tryz.prog 191 #[.int .i64 d] w fun e w' => ∃ v, e = .returned (.tuple #[v, .int .i64 0]) ∧ RowsOwn w' w.heap.size v (parM d) ∧ Ext w w' := by
  obtain ⟨j0, hj, hj0, hj1, hj2⟩ := info_parts infoR
  have hI1 : ¬ ((d : Int) < 1) := by omega
  have hI2 : ¬ ((d : Int) > 13) := by omega
  have hmk : ∀ w : World, (Instr.makeSlice 47 (.int .i64 (d : Int)) (.int .i64 (d : Int))).run Tryz.prog w = .ok (.slice (some ⟨w.heap.size, 0, none⟩) d d) (w.alloc (.cells (madeCells #[.int .u8 0] d) 5)) :=
    run_make_row' 47 5 (.int .u8 0) 1 Tryz.underlying47 infoB rfl .i64 .i64 d (by omega) (by first | omega | (unfold maxLen; omega))
  go_enter Tryz.func191, Tryz.ntmps191
  go_wp2
  go_loopw [4, 14] (fun ov it wr => ∃ j : Nat, j ≤ 3 ∧ it = .int .i64 j ∧ Hid (RowsOwn wr w.heap.size ov ((List.range j).map (parL d))) ∧ Hid (Ext w wr)) (fun _ it _ => 3 - (intOf it).toNat)
  case atStart => exact ⟨0, Nat.zero_le _, rfl, RowsOwn.nil _ _, Ext.refl _⟩
  case round =>
    obtain ⟨j, hj3, rfl, HO, HX⟩ := hrel
    obtain ⟨vs, hO1, hO2, hO3⟩ := HO.out
    have hlj : vs.length = j := by rw [hO2]; simp
    obtain ⟨oa, oc, rfl⟩ := hO1.shape
    have HO1 := Lib.hid hO1
    have HO2 := Lib.hid hO2
    have HO3 := Lib.hid hO3
    have HLJ := Lib.hid hlj
    rw [hlj] at HO1 ⊢
    clear HO hO1 hO2 hO3 hlj
    by_cases hlt : j < 3
    · have hjI : (j : Int) < 3 := by omega
      have HB1 : Hid (RowB (wr.alloc (.cells (madeCells #[.int .u8 0] d) 5)) wr.heap.size (filled 0#8 (parL d j) 0)) := by
        rw [filled_zero, parL_len]; exact RowB.made wr d
      have HX1 : Hid (Ext wr (wr.alloc (.cells (madeCells #[.int .u8 0] d) 5))) := Ext.alloc _ _
      have HLP := Lib.hid (parL_len d j)
      have HGP := Lib.hid (parL_get d j)
      generalize wr = wo at *
      go_wp2_with fail
      obtain ⟨g, hg⟩ : ∃ g, wo.heap.size = g := ⟨_, rfl⟩
      have HGG := Lib.hid hg
      generalize (wo.alloc (.cells (madeCells #[.int .u8 0] d) 5)) = w1 at *
      rw [hg] at HB1 ⊢
      clear hg hmk
      go_loopw [21] (fun it wr => ∃ k : Nat, k ≤ d ∧ it = .int .i64 k ∧ Hid (RowB wr g (filled 0#8 (parL d j) k)) ∧ Hid (Ext wo wr)) (fun it _ => d - (intOf it).toNat)
      case atStart => exact ⟨0, Nat.zero_le _, rfl, HB1, HX1⟩
      case round =>
        obtain ⟨k, hk, rfl, HB, HXi⟩ := hrel
        by_cases hlk : k < d
        · have hkI : (k : Int) < (d : Int) := by omega
          have h3 : k < (parL d j).length := by rw [HLP.out]; exact hlk
          have hfl := filled_len (z := 0#8) (Nat.le_of_lt h3)
          have h4 : k < (filled 0#8 (parL d j) k).length := by rw [hfl]; exact h3
          have hcg : wr.cell? ⟨g, k, none⟩ = some (encB 0#8) := by
            have := HB.out.cell k h4
            rwa [filled_at] at this
          have hfg := HB.out.free k
          have hgl := HB.out.lt
          have hpu := HB.out.put k (parL d j)[k]
          rw [filled_next h3, HGP.out k h3] at hpu
          have HP := Lib.hid hpu
          have HXn : Hid (Ext wo (wr.setCell ⟨g, k, none⟩ (encB (expG (k * j))))) := HXi.out.setOwn (by rw [HGG.out]; exact Nat.le_refl _)
          have hkj : k * j ≤ 1000 := by
            have : k * j ≤ 13 * 3 := Nat.mul_le_mul (by omega) (by omega)
            omega
          obtain ⟨q, hq⟩ : ∃ q, k * j = q := ⟨_, rfl⟩
          have hmul : (k : Int) * (j : Int) = (q : Int) := by rw [← hq]; simp
          rw [hq] at hkj
          have hmul2 : Go.RowKit.wrap64 (q : Int) = (q : Int) := w64_small _ (by omega)
          rw [hq] at HP HXn
          clear h3 hfl h4 hpu hq
          go_wp2_with (go_at_call 95; refine (exp_any q (by omega) _).mono ?_; rintro e w' ⟨rfl, rfl⟩)
          go_roundw
          case rel => exact ⟨k + 1, by omega, by go_num, HP, HXn⟩
          case measure => simp [intOf]; omega
        · have hkd : k = d := by omega
          subst hkd
          have HF := HB.out
          rw [filled_all' HLP.out] at HF
          have HF2 := Lib.hid HF
          clear HF HB
          go_wp2_with (at_builtin; refine Classical.byContradiction (fun hN => ?_))
          refine hN ?_
          clear hN
          have e1 : Ext wr (wr.alloc (.cells #[.slice (some ⟨g, 0, none⟩) k k] 47)) := Ext.alloc _ _
          have hown := (HO1.out.ext (HXi.out.trans e1))
          have hsz := (HX.out.trans HXi.out).size
          refine wpList_append_one rfl _ _ _ rfl w.heap.size 47 j0 (.slice none 0 0) 24 Tryz.underlying33 hj hj0 hj1 hj2 rfl _ _ _ rfl hown _ (.slice (some ⟨g, 0, none⟩) k k) rfl rfl (cell_new1 _ _ _) (by rw [HLJ.out]; unfold maxLen; omega) (by rw [HLJ.out]; omega) (by simp; omega) ?_
          intro v6 w6 ho6 hg6 _
          have HX6 : Hid (Ext w w6) := ((HX.out.trans HXi.out).trans e1).grown hg6 (by simp; omega) (fun q hq => (hown.lt q hq).1)
          have HR6 : Hid (RowsOwn w6 w.heap.size v6 ((List.range (j + 1)).map (parL k))) := by
            refine ⟨vs ++ [.slice (some ⟨g, 0, none⟩) k k], OwnG.snoc (enc := id) (x := .slice (some ⟨g, 0, none⟩) k k) ho6, by rw [range_succ_map, List.length_append, List.length_append, HO2.out]; rfl, ?_⟩
            rw [range_succ_map]
            refine rows_snoc HO2.out (fun i a b => ((HO3.out i a b).ext (HXi.out.trans e1)).grown hown hg6) ?_
            have hrow : IsRow (wr.alloc (.cells #[.slice (some ⟨g, 0, none⟩) k k] 47)) (.slice (some ⟨g, 0, none⟩) k k) (parL k j) := ⟨g, by unfold rowV; rw [HLP.out], HF2.out.ext e1, by rw [HLP.out]; unfold maxLen; omega⟩
            exact hrow.grown hown hg6
          obtain ⟨g7, c7, rfl⟩ := own_shape ho6
          clear ho6 hg6 hown e1
          go_wp2
          go_roundw
          case rel => exact ⟨j + 1, by omega, by go_num, HR6, HX6⟩
          case measure => simp [intOf]; omega
    · have hj3' : j = 3 := by omega
      subst hj3'
      have HO : Hid (RowsOwn wr w.heap.size (.slice oa 3 oc) (parM d)) := ⟨vs, HO1.out, HO2.out, HO3.out⟩
      go_wp2_with fail
      go_ret2
      exact ⟨_, rfl, HO.out, HX.out⟩
end Go.Proofs.YtjabgpejmnpamaaGreatDoor

namespace Go.Proofs.YtjabgpejmnpamaaGreatDoor
open Go.RowKit
attribute [local go_sem] wrapI_ub wrap8_ub unsigned8 xor_ub
def unitM (n : Nat) : List (List (BitVec 8)) := (List.range n).map (unitL n)
def genM (d : Nat) : List (List (BitVec 8)) := unitM d ++ parM d
theorem OwnG.atAll {α : Type} {enc : α → Value} {e : TypeId} {w : World} {base q n c : Nat} {l : List α} (h : OwnG enc e w base (.slice (some ⟨q, 0, none⟩) n c) l) (hn : n = l.length) :
    ∀ j v, (l.map enc)[j]? = some v → w.cell? ((⟨q, 0, none⟩ : Addr).add j) = some v := by
  intro j v hv
  rw [add_plain, Nat.zero_add]
  rw [List.getElem?_map] at hv
  cases hj : l[j]? with
  | none => rw [hj] at hv; cases hv
  | some x =>
    rw [hj] at hv
    injection hv with hv
    obtain ⟨hlt, hx⟩ := List.getElem?_eq_some_iff.1 hj
    rw [h.at hn hlt, hx, hv]
theorem isRow_one {w : World} {v : Value} {l : List (BitVec 8)} (h : IsRow w v l) : v.oneCell' = true := by
  obtain ⟨g, rfl, _⟩ := h; rfl
set_option maxHeartbeats 1000000 in
theorem generator_any (d : Nat) (w : World) (h0 : 1 ≤ d) (hn : d ≤ 13) :
    Calls Tryz.prog 145 #[.int .i64 (d + 3 : Nat)] w fun e w' => ∃ v, e = .returned v ∧ RowsOwn w' w.heap.size v (genM d) ∧ Ext w w' := by
  obtain ⟨j0, hj, hj0, hj1, hj2⟩ := info_parts infoR
  have hs1 : (((d + 3 : Nat) : Int) - 3) = (d : Int) := by omega
  have hs2 : Go.RowKit.wrap64 (d : Int) = (d : Int) := w64_small _ (by omega)
  obtain ⟨q, hq⟩ : ∃ q, d + 3 = q := ⟨_, rfl⟩
  rw [hq] at hs1 ⊢
  clear hq
  have hgi : ∀ i (h : i < ((List.range d).map (blankV w.heap.size d)).length), ((List.range d).map (blankV w.heap.size d))[i] = blankV w.heap.size d i := fun i h => by simp
  have HGI := Lib.hid hgi
  clear hgi
  have HL := Lib.hid (range_len d w.heap.size d)
  go_enter Tryz.func145, Tryz.ntmps145
  go_wp2_with (go_at_call 190; refine (identity_any d _ h0 (by omega)).mono ?_; rintro e w1 ⟨rfl, hO1, hB1, hX1⟩; have HO1 := Lib.hid hO1; have HB1 := Lib.hid hB1; have HX1 := Lib.hid hX1; clear hO1 hB1 hX1)
  go_at_call 191
  refine (matrix_any d _ h0 hn).mono ?_
  rintro e w2 ⟨pv, rfl, ⟨us, hO2, hO2l, hO2r⟩, hX2⟩
  have hul : us.length = 3 := by rw [hO2l]; simp [parM]
  obtain ⟨g2, c2, rfl, hg2, hg2l⟩ := hO2.form (by omega)
  have HO2 := Lib.hid hO2
  have HO2l := Lib.hid hO2l
  have HO2r := Lib.hid hO2r
  have HX2 := Lib.hid hX2
  have HUL := Lib.hid hul
  rw [hul] at HO2 ⊢
  clear hO2 hO2l hO2r hX2 hul
  have hx12 := (HX1.out.trans HX2.out).size
  go_wp2_with (at_builtin; refine Classical.byContradiction (fun hN => ?_))
  refine hN ?_
  clear hN
  have hown := HO1.out.ext HX2.out
  refine wpList_append_own_at w2 rfl _ _ _ rfl w.heap.size 47 j0 (.slice none 0 0) 1 24 Tryz.underlying33 hj hj0 hj1 hj2 rfl (by decide) _ _ _ rfl hown ⟨g2, 0, none⟩ 3 (c2 + 1) (us.map id) rfl (by rw [List.length_map, HUL.out]) (HO2.out.atAll (by rw [HUL.out])) ?_ (by rw [HL.out]; unfold maxLen; omega) (by rw [HL.out]; omega) hx12 ?_
  · intro u hu
    obtain ⟨x, hx, rfl⟩ := List.mem_map.1 hu
    obtain ⟨i, hi, rfl⟩ := List.mem_iff_getElem.1 hx
    exact isRow_one (HO2r.out i hi (by rw [← HO2l.out]; exact hi))
  intro v6 w6 ho6 hg6 _ _
  have HX6 : Hid (Ext w w6) := (HX1.out.trans HX2.out).grown hg6 hx12 (fun q hq => (hown.lt q hq).1)
  have HR6 : Hid (RowsOwn w6 w.heap.size v6 (genM d)) := by
    refine ⟨(List.range d).map (blankV w.heap.size d) ++ us, ?_, ?_, ?_⟩
    · show World.ownsRow _ _ _ _ _ _ _
      rw [List.length_append, List.map_append, HUL.out]; exact ho6
    · unfold genM unitM; rw [List.length_append, List.length_append, HO2l.out]; simp
    · unfold genM unitM
      refine rows_append (by simp) HO2l.out (fun i a b => ?_) (fun i a b => (HO2r.out i a b).grown hown hg6)
      have hid : i < d := by rw [← HL.out]; exact a
      rw [HGI.out i a]
      have hu : ((List.range d).map (unitL d))[i] = unitL d i := by simp
      rw [hu]
      have : IsRow w1 (blankV w.heap.size d i) (unitL d i) := ⟨w.heap.size + 1 + i, by unfold rowV; rw [unitL_len], HB1.out i hid, by rw [unitL_len]; unfold maxLen; omega⟩
      exact (this.ext HX2.out).grown hown hg6
  obtain ⟨g7, c7, rfl⟩ := own_shape ho6
  clear ho6 hg6 hown
  rw [HL.out] at HR6 ⊢
  go_wp2
  go_ret
  exact ⟨_, rfl, HR6.out, HX6.out⟩
end Go.Proofs.YtjabgpejmnpamaaGreatDoor

namespace Go.Proofs.YtjabgpejmnpamaaGreatDoor
open Go.RowKit
attribute [local go_sem] wrapI_ub wrap8_ub unsigned8 xor_ub
theorem nonzero1_any (v : Value) (l : List (BitVec 8)) (g c : Nat) (w : World) (hg : w.cell? ⟨g, 0, none⟩ = some (.int .i64 c)) (hgl : g < w.heap.size) (hc : c < l.length) (hm : l.length ≤ 1000) (hz : l[c] ≠ 0#8) (h : SliceAt encB w v l) :
    Calls Tryz.prog 195 #[v, .pointer (some ⟨g, 0, none⟩)] w fun e w' => e = .returned (.bool true) ∧ w = w' := by
  obtain ⟨a, cp, rfl⟩ := h.shape
  obtain ⟨b, off, rfl, hb, hcc⟩ := h.get c hc
  have hp := ub_pos hz
  have hne : (ub l[c] == 0) = false := by rw [beq_eq_false_iff_ne]; omega
  have hne2 : (ub l[c] != 0) = true := by rw [bne_iff_ne]; omega
  generalize l[c] = x at *
  have hcI : (c : Int) < (l.length : Int) := by omega
  obtain ⟨n, hn⟩ : ∃ n, l.length = n := ⟨_, rfl⟩
  rw [hn] at hcI hm ⊢
  clear h hn hz hc
  go_enter Tryz.func195, Tryz.ntmps195
  go_wp2
  go_ret
  exact ⟨rfl, rfl⟩
set_option maxHeartbeats 1000000 in
theorem rowIndex_any (v v0 : Value) (l : List (BitVec 8)) (b off n cap g c : Nat) (w : World) (hn : 1 ≤ n) (hnm : n ≤ 1000) (hb : b < w.heap.size) (hv : v = .slice (some ⟨b, off, none⟩) n cap) (h0 : w.cell? ⟨b, off, none⟩ = some v0)
    (hg : w.cell? ⟨g, 0, none⟩ = some (.int .i64 c)) (hgl : g < w.heap.size) (hc : c < l.length) (hm : l.length ≤ 1000) (hz : l[c] ≠ 0#8) (h : SliceAt encB w v0 l) :
    Calls Tryz.prog 194 #[v, .func (.func 195) #[] #[.pointer (some ⟨g, 0, none⟩)]] w fun e w' => e = .returned (.int .i64 0) ∧ w = w' := by
  subst hv
  have HC := Lib.hid (nonzero1_any v0 l g c w hg hgl hc hm hz h)
  obtain ⟨a, cp, rfl⟩ := h.shape
  have hnI : (0 : Int) < (n : Int) := by omega
  clear h hz hc
  generalize l.length = m at *
  go_enter Tryz.func194, Tryz.ntmps194
  go_wp2_with fail
  refine wp_loop_rounds 1 ?_
  rw [rounds_succ]
  go_wp2_with fail
  refine HC.out.mono ?_
  rintro e w' ⟨rfl, rfl⟩
  go_wp2_with fail
  go_ret
  exact ⟨rfl, rfl⟩
end Go.Proofs.YtjabgpejmnpamaaGreatDoor

namespace Go.Proofs.YtjabgpejmnpamaaGreatDoor
open Go.RowKit
set_option maxRecDepth 100000
attribute [local go_sem] wrapI_ub wrap8_ub unsigned8 xor_ub
abbrev arrV (l : List (BitVec 8)) : Value := .agg (l.map encB).toArray
def ArrAt (w : World) (g : Nat) (l : List (BitVec 8)) : Prop := BoxAt w g (l.map encB).toArray 76 ∧ l.length = 8
theorem ArrAt.ext {w w' : World} {g : Nat} {l : List (BitVec 8)} (h : ArrAt w g l) (e : Ext w w') : ArrAt w' g l := ⟨h.1.ext e, h.2⟩
theorem ArrAt.cell {w : World} {g : Nat} {l : List (BitVec 8)} (h : ArrAt w g l) (i : Nat) (hi : i < 8) : w.cell? ⟨g, i, none⟩ = some (encB (l.getD i 0#8)) := by
  have hl : i < l.length := by rw [h.2]; exact hi
  exact h.1.cell i (by simp [hl])
theorem ArrAt.free {w : World} {g : Nat} {l : List (BitVec 8)} (h : ArrAt w g l) (i : Nat) : w.frozen? ⟨g, i, none⟩ = false := h.1.free i
theorem ArrAt.lt {w : World} {g : Nat} {l : List (BitVec 8)} (h : ArrAt w g l) : g < w.heap.size := h.1.lt
theorem ArrAt.put {w : World} {g : Nat} {l : List (BitVec 8)} (h : ArrAt w g l) (k : Nat) (x : BitVec 8) : ArrAt (w.setCell ⟨g, k, none⟩ (encB x)) g (l.set k x) := by
  refine ⟨?_, by rw [List.length_set]; exact h.2⟩
  have := BoxAt.set h.1 k (encB x)
  rw [List.map_set]
  simpa using this
theorem ArrAt.off {w : World} {g b : Nat} {l : List (BitVec 8)} (h : ArrAt w g l) (hb : g ≠ b) (k : Nat) (v : Value) : ArrAt (w.setCell ⟨b, k, none⟩ v) g l := ⟨h.1.set_off hb k v, h.2⟩
theorem ArrAt.new (w : World) (l : List (BitVec 8)) (hl : l.length = 8) : ArrAt (w.alloc (.cells (l.map encB).toArray 76)) w.heap.size l := ⟨BoxAt.new _ _ _, hl⟩
theorem ArrAt.load {w : World} {g : Nat} {l : List (BitVec 8)} (h : ArrAt w g l) : (Instr.loadAt 76 (.pointer (some ⟨g, 0, none⟩))).run Tryz.prog w = .ok (arrV l) w := by
  refine run_loadAt_mid w g 0 76 (l.map encB) _ ?_ Tryz.underlying76 rfl ?_
  · intro j v hv
    rw [Nat.zero_add]
    exact h.1.cell j (by simpa using hv)
  · rw [List.length_map, h.2]; kernel_rfl
theorem arr_cases {l : List (BitVec 8)} (h : l.length = 8) : ∃ x0 x1 x2 x3 x4 x5 x6 x7, l = [x0, x1, x2, x3, x4, x5, x6, x7] := by
  match l, h with
  | [x0, x1, x2, x3, x4, x5, x6, x7], _ => exact ⟨x0, x1, x2, x3, x4, x5, x6, x7, rfl⟩
def turned {α : Type} (F A : List α) (k : Nat) : List α := F.take k ++ A.drop k
theorem turned_get {α : Type} {F A : List α} {k : Nat} {d : α} (h : F.length = A.length) (hk : k < A.length) : (turned F A k).getD k d = A.getD k d := by
  unfold turned
  rw [List.getD_eq_getElem?_getD, List.getD_eq_getElem?_getD, List.getElem?_append_right (by simp; omega)]
  simp only [List.length_take, List.getElem?_drop]
  congr 2
  omega
theorem turned_next {α : Type} {F A : List α} {k : Nat} {d : α} (h : F.length = A.length) (hk : k < A.length) : (turned F A k).set k (F.getD k d) = turned F A (k + 1) := by
  have hkF : k < F.length := by omega
  unfold turned
  rw [List.set_append_right _ _ (by simp; omega), List.length_take, Nat.min_eq_left (by omega), Nat.sub_self, List.drop_eq_getElem_cons hk, List.set_cons_zero, List.take_succ_eq_append_getElem hkF, List.append_assoc, getD_in hkF]
  rfl
theorem turned_zero {α : Type} {F A : List α} : turned F A 0 = A := by simp [turned]
theorem turned_all {α : Type} {F A : List α} {n : Nat} (h : F.length = n) (h2 : A.length = n) : turned F A n = F := by
  unfold turned
  rw [List.take_of_length_le (by omega), List.drop_eq_nil_of_le (by omega), List.append_nil]
theorem fused_getD {xs ys : List (BitVec 8)} {c : BitVec 8} {k : Nat} (h : xs.length = ys.length) (hk : k < xs.length) : (fusedG xs ys c).getD k 0#8 = xs.getD k 0#8 ^^^ mulG c (ys.getD k 0#8) := by
  have hl := fusedG_length xs ys c h
  rw [getD_in (show k < (fusedG xs ys c).length by omega), getD_in hk, getD_in (show k < ys.length by omega), fusedG_get xs ys c k hk (by omega) (by omega)]
theorem arrc_size {b : Nat} : ∀ (vs : List Value) (o : Nat) (w : World), (w.setCells b o vs).heap.size = w.heap.size
  | [], _, _ => rfl
  | v :: r, o, w => by rw [World.setCells, arrc_size r, World.size_setCell]
theorem arrc_ext {w0 : World} {b : Nat} (hb : w0.heap.size ≤ b) : ∀ (vs : List Value) (o : Nat) (w : World), Ext w0 w → Ext w0 (w.setCells b o vs)
  | [], _, _, h => h
  | v :: r, o, w, h => by rw [World.setCells]; exact arrc_ext hb r _ _ (Ext.setOwn h hb)
theorem arrc_other {g : Nat} : ∀ (vs : List Value) (o : Nat) (w : World) (k : Nat), k ≠ g → (w.setCells g o vs).heap[k]? = w.heap[k]?
  | [], _, _, _, _ => rfl
  | v :: r, o, w, k, h => by rw [World.setCells, arrc_other r _ _ k h]; exact Below.heap_setCell _ _ _ k h
theorem arrc_box {b : Nat} {t : TypeId} : ∀ (vs : List Value) (o : Nat) (w : World) (cs : Array Value), BoxAt w b cs t → o + vs.length ≤ cs.size → ∃ cs' : Array Value, BoxAt (w.setCells b o vs) b cs' t ∧ cs'.size = cs.size ∧ (∀ i, i < o → cs'[i]? = cs[i]?) ∧ (∀ i, o + vs.length ≤ i → cs'[i]? = cs[i]?) ∧ ∀ i, i < vs.length → cs'[o + i]? = vs[i]?
  | [], o, w, cs, h, _ => ⟨cs, h, rfl, fun _ _ => rfl, fun _ _ => rfl, fun i hi => absurd hi (by simp)⟩
  | v :: r, o, w, cs, h, hl => by
    rw [World.setCells]
    simp only [List.length_cons] at hl
    obtain ⟨cs', h1, h2, h3, h5, h4⟩ := arrc_box r (o + 1) _ _ (h.set o v) (by simp; omega)
    refine ⟨cs', h1, by rw [h2]; simp, fun i hi => ?_, fun i hi => ?_, fun i hi => ?_⟩
    · rw [h3 i (by omega), Array.getElem?_setIfInBounds_ne (by omega)]
    · simp only [List.length_cons] at hi
      rw [h5 i (by omega), Array.getElem?_setIfInBounds_ne (by omega)]
    · cases i with
      | zero =>
        rw [Nat.add_zero, h3 o (by omega), Array.getElem?_setIfInBounds_self]
        simp [show o < cs.size by omega]
      | succ i =>
        have := h4 i (by simpa using hi)
        rw [show o + 1 + i = o + (i + 1) by omega] at this
        rw [this]; rfl
theorem arrc_all {w : World} {b : Nat} {t : TypeId} {cs : Array Value} (h : BoxAt w b cs t) (vs : List Value) (hl : vs.length = cs.size) : BoxAt (w.setCells b 0 vs) b vs.toArray t := by
  obtain ⟨cs', h1, h2, _, _, h4⟩ := arrc_box vs 0 w cs h (by omega)
  have : cs' = vs.toArray := by
    apply Array.ext_getElem?
    intro i
    by_cases hi : i < vs.length
    · have := h4 i hi
      rw [Nat.zero_add] at this
      rw [this]; simp
    · rw [Array.getElem?_eq_none (by omega), Array.getElem?_eq_none (by simp; omega)]
  rw [← this]; exact h1
theorem wpList_store_arr {ops : Array Oper} {rest : List Oper} {o : Oper} {a : Act} {w w0 : World} {Q : Exit → Act → World → Prop} (x y : Operand) (ho : o.op = .store 76 x y)
    (hw : Region.wanted o (yielded ops a.tmps) = true) {g : Nat} {l l' : List (BitVec 8)} (hx : a.eval x = .pointer (some ⟨g, 0, none⟩)) (hy : a.eval y = arrV l') (hb : ArrAt w g l) (hl : l'.length = 8)
    (he : Ext w0 w) (hg : w0.heap.size ≤ g)
    (h : ∀ w', Ext w0 w' → ArrAt w' g l' → (∀ k, k ≠ g → w'.heap[k]? = w.heap[k]?) → w'.heap.size = w.heap.size → wpList Tryz.prog ops Q rest (a.put o.dst undef) w') : wpList Tryz.prog ops Q (o :: rest) a w := by
  refine wpList_step fun K hK => ?_
  rw [if_pos hw]
  have hs : ((l'.map encB).toArray).size = 8 := by simp [hl]
  have hrun := run_storeAt_mid (P := Tryz.prog) w g 0 76 (l'.map encB).toArray (fun j hj => ⟨by rw [Nat.zero_add, hb.cell j (by omega)]; rfl, by rw [Nat.zero_add]; exact hb.free j⟩) (by rw [hs]; kernel_rfl) (by simp [Value.oneCell'])
  unfold Oper.wp execOp
  simp only [ho, hx, hy, Sem.run_bind, Sem.run_pure, Result.andThen_ok, hrun]
  refine hK _ _ (h _ (arrc_ext hg _ _ _ he) ⟨?_, hl⟩ (fun k hk => arrc_other _ _ _ k hk) (arrc_size _ _ _))
  have := arrc_all hb.1 (l'.map encB) (by simp [hl, hb.2])
  simpa using this
theorem results_cell_run {P : Program} {fn : Func} {p : Tmp} {ty : TypeId} (h : fn.results = #[.cell p ty]) (tmps : Array Value) (w : World) {g : Nat} {v : Value}
    (hp : tmps.getD p undef = .pointer (some ⟨g, 0, none⟩)) (hl : (loadVar ty ⟨g, 0, none⟩).run P w = .ok v w) : (results fn tmps).run P w = .ok v w := by
  have hp' : tmps[p]?.getD undef = .pointer (some ⟨g, 0, none⟩) := by simpa using hp
  simp [results, h, hp', asAddr, hl]
theorem ArrAt.result {w : World} {g : Nat} {l : List (BitVec 8)} (h : ArrAt w g l) : (loadVar 76 ⟨g, 0, none⟩).run Tryz.prog w = .ok (arrV l) w := by
  refine run_loadVar_mid w g 0 76 (l.map encB) _ ?_ Tryz.underlying76 rfl ?_
  · intro j v hv
    rw [Nat.zero_add]
    exact h.1.cell j (by simpa using hv)
  · rw [List.length_map, h.2]; kernel_rfl
set_option maxHeartbeats 4000000 in
theorem pfused_any (A B : List (BitVec 8)) (c : BitVec 8) (w : World) (hA : A.length = 8) (hB : B.length = 8) :
    Calls Tryz.prog 94 #[arrV A, arrV B, encB c] w fun e w' => e = .returned (arrV (fusedG A B c)) ∧ Ext w w' := by
  have hF : (fusedG A B c).length = 8 := by rw [fusedG_length _ _ _ (by omega)]; exact hA
  go_enter Tryz.func94, Tryz.ntmps94
  go_wp2_with fail
  have hA0 : ArrAt (((w.alloc (.cells (A.map encB).toArray 76)).alloc (.cells (B.map encB).toArray 76)).alloc (.cells #[.int .u8 0, .int .u8 0, .int .u8 0, .int .u8 0, .int .u8 0, .int .u8 0, .int .u8 0, .int .u8 0] 76)) w.heap.size (turned (fusedG A B c) A 0) := by
    rw [turned_zero]; exact ((ArrAt.new w A hA).ext (Ext.alloc _ _)).ext (Ext.alloc _ _)
  have hB0 : ArrAt (((w.alloc (.cells (A.map encB).toArray 76)).alloc (.cells (B.map encB).toArray 76)).alloc (.cells #[.int .u8 0, .int .u8 0, .int .u8 0, .int .u8 0, .int .u8 0, .int .u8 0, .int .u8 0, .int .u8 0] 76)) (w.heap.size + 1) B := by
    have h := ArrAt.new (w.alloc (.cells (A.map encB).toArray 76)) B hB
    rw [World.size_alloc] at h
    exact h.ext (Ext.alloc _ _)
  have hR0 : ArrAt (((w.alloc (.cells (A.map encB).toArray 76)).alloc (.cells (B.map encB).toArray 76)).alloc (.cells #[.int .u8 0, .int .u8 0, .int .u8 0, .int .u8 0, .int .u8 0, .int .u8 0, .int .u8 0, .int .u8 0] 76)) (w.heap.size + 1 + 1) (List.replicate 8 0#8) := by
    have h := ArrAt.new ((w.alloc (.cells (A.map encB).toArray 76)).alloc (.cells (B.map encB).toArray 76)) (List.replicate 8 0#8) rfl
    rw [World.size_alloc, World.size_alloc] at h
    exact h
  have hX0 : Ext w (((w.alloc (.cells (A.map encB).toArray 76)).alloc (.cells (B.map encB).toArray 76)).alloc (.cells #[.int .u8 0, .int .u8 0, .int .u8 0, .int .u8 0, .int .u8 0, .int .u8 0, .int .u8 0, .int .u8 0] 76)) := ((Ext.alloc _ _).trans (Ext.alloc _ _)).trans (Ext.alloc _ _)
  generalize (((w.alloc (.cells (A.map encB).toArray 76)).alloc (.cells (B.map encB).toArray 76)).alloc (.cells #[.int .u8 0, .int .u8 0, .int .u8 0, .int .u8 0, .int .u8 0, .int .u8 0, .int .u8 0, .int .u8 0] 76)) = w0 at *
  obtain ⟨g, hg⟩ : ∃ g, w.heap.size = g := ⟨_, rfl⟩
  rw [hg] at hA0 hB0 hR0 ⊢
  have HG := Lib.hid hg
  have HA0 := Lib.hid hA0
  have HB0 := Lib.hid hB0
  have HR0 := Lib.hid hR0
  have HX0 := Lib.hid hX0
  have HF := Lib.hid hF
  have HA := Lib.hid hA
  have HB := Lib.hid hB
  clear hg hA0 hB0 hR0 hX0 hF hA hB
  go_loopw [8] (fun it wr => ∃ k : Nat, k ≤ 8 ∧ it = .int .i64 k ∧ Hid (ArrAt wr g (turned (fusedG A B c) A k)) ∧ Hid (ArrAt wr (g + 1) B) ∧ Hid (ArrAt wr (g + 1 + 1) (List.replicate 8 0#8)) ∧ Hid (Ext w wr)) (fun it _ => 8 - (intOf it).toNat)
  case atStart => exact ⟨0, by omega, rfl, HA0, HB0, HR0, HX0⟩
  case round =>
    obtain ⟨k, hk, rfl, HP, HQ, HR, HX⟩ := hrel
    by_cases hlt : k < 8
    · have hkI : (k : Int) < 8 := by omega
      have hca : wr.cell? ⟨g, k, none⟩ = some (encB (A.getD k 0#8)) := by
        have := HP.out.cell k hlt
        rwa [turned_get (by rw [HF.out, HA.out]) (by rw [HA.out]; exact hlt)] at this
      have hcb : wr.cell? ⟨g + 1, k, none⟩ = some (encB (B.getD k 0#8)) := HQ.out.cell k hlt
      have hfa := HP.out.free k
      have hl1 := HP.out.lt
      have hl2 := HQ.out.lt
      have hne := fused_getD (c := c) (k := k) (show A.length = B.length by rw [HA.out, HB.out]) (by rw [HA.out]; exact hlt)
      have hpu := HP.out.put k ((fusedG A B c).getD k 0#8)
      rw [turned_next (by rw [HF.out, HA.out]) (by rw [HA.out]; exact hlt), hne] at hpu
      have HP2 := Lib.hid hpu
      have HQ2 : Hid (ArrAt (wr.setCell ⟨g, k, none⟩ (encB (A.getD k 0#8 ^^^ mulG c (B.getD k 0#8)))) (g + 1) B) := HQ.out.off (by omega) _ _
      have HR2 : Hid (ArrAt (wr.setCell ⟨g, k, none⟩ (encB (A.getD k 0#8 ^^^ mulG c (B.getD k 0#8)))) (g + 1 + 1) (List.replicate 8 0#8)) := HR.out.off (by omega) _ _
      have HX2 : Hid (Ext w (wr.setCell ⟨g, k, none⟩ (encB (A.getD k 0#8 ^^^ mulG c (B.getD k 0#8))))) := HX.out.setOwn (by rw [HG.out]; exact Nat.le_refl _)
      generalize A.getD k 0#8 = x at *
      generalize B.getD k 0#8 = y at *
      clear hpu hne
      go_wp2_with fail
      refine wp_region_exq [(0, true), (1, true), (2, true), (3, true), (4, true), (5, true), (6, true), (7, false), (8, true), (9, true), (10, false)] (by kernel_rfl) (by kernel_rfl) ?_
      iterate 7 ((first
       | refine exq_move rfl rfl (by rfl) (by rfl) ?_
       | refine exq_assign rfl rfl (by rfl) (by rfl) ?_
       | refine exq_pick_t rfl rfl (by rfl) (by rfl) (by rfl) ?_
       | refine exq_pick_f rfl rfl (by rfl) (by rfl) (by rfl) ?_
       | (apply exq_take rfl (by rfl)
          · intro w' hS
            have hSc := hS.cells
            (try simp only [World.size_drew, World.cell?_drew] at hSc)
            go_simp
            (try simp (disch := omega) only [i64_id, u64_id, ↓IntWalk.iteOmega, Int.tdiv_eq_ediv_of_nonneg, Int.tmod_eq_emod_of_nonneg])
            try rfl)
       | refine exq_pass rfl (by rfl) ?_); simp only [Act.put, setZa, setZ0, setZ1])
      (refine exq_do rfl (by rfl) (fun K hK => ?_)
       go_simp
       go_at_call 142
       refine (gmul_any c y _).mono ?_
       rintro e w' ⟨rfl, rfl⟩
       refine hK _ _ (by first | (with_reducible exact Ext.refl _) | (with_reducible exact Ext.drew _)) ?_
       clear hK K
       (try simp only [Act.put, setZa, setZ0, setZ1]))
      iterate 2 ((first
       | refine exq_move rfl rfl (by rfl) (by rfl) ?_
       | refine exq_assign rfl rfl (by rfl) (by rfl) ?_
       | refine exq_pick_t rfl rfl (by rfl) (by rfl) (by rfl) ?_
       | refine exq_pick_f rfl rfl (by rfl) (by rfl) (by rfl) ?_
       | (apply exq_take rfl (by rfl)
          · intro w' hS
            have hSc := hS.cells
            (try simp only [World.size_drew, World.cell?_drew] at hSc)
            go_simp
            (try simp (disch := omega) only [i64_id, u64_id, ↓IntWalk.iteOmega, Int.tdiv_eq_ediv_of_nonneg, Int.tmod_eq_emod_of_nonneg])
            try rfl)
       | refine exq_pass rfl (by rfl) ?_); simp only [Act.put, setZa, setZ0, setZ1])
      (refine exq_last rfl (by rfl) (by kernel_rfl) (fun K hK => ?_)
       go_simp
       refine hK _ _ ?_
       clear hK K
       (try simp only [Act.put, setZa, setZ0, setZ1]))
      go_wp2_with fail
      go_roundw
      case rel => exact ⟨k + 1, by omega, by go_num, HP2.out.ext (Ext.drew _), HQ2.out.ext (Ext.drew _), HR2.out.ext (Ext.drew _), HX2.out.trans (Ext.drew _)⟩
      case measure => simp [intOf]; omega
    · have hk8 : k = 8 := by omega
      subst hk8
      have HP2 : Hid (ArrAt wr g (fusedG A B c)) := by
        have := HP.out
        rw [turned_all HF.out HA.out] at this
        exact this
      have HLD := Lib.hid HP2.out.load
      have hgw : w.heap.size ≤ g + 1 + 1 := by have := HG.out; omega
      go_wp2_with (first | (refine wpList_loadR 76 _ rfl (by rfl) rfl HLD.out ?_) | (refine wpList_store_arr _ _ rfl (by rfl) rfl rfl HR.out HF.out HX.out hgw ?_; intro w9 hx9 ha9 ho9 hs9))
      refine bodyPost_ret (v := arrV (fusedG A B c)) ?_ rfl ⟨rfl, hx9⟩
      exact results_cell_run rfl _ _ rfl ha9.result
end Go.Proofs.YtjabgpejmnpamaaGreatDoor

namespace Go.Proofs.YtjabgpejmnpamaaGreatDoor
open Go.RowKit
abbrev SV := Option Addr × Nat × Nat
abbrev encS (s : SV) : Value := .slice s.1 s.2.1 s.2.2
theorem SliceAt.get0 {α : Type} {enc : α → Value} {w : World} {ad : Option Addr} {n cap : Nat} {l : List α} (h : SliceAt enc w (.slice ad n cap) l) (i : Nat) (hi : i < l.length) :
    ∃ b off, ad = some ⟨b, off, none⟩ ∧ b < w.heap.size ∧ w.cell? ⟨b, off + i, none⟩ = some (enc l[i]) := by
  obtain ⟨ad', cap', hv, _, h⟩ := h
  injection hv with h1 _ _
  rcases h with ⟨h0, _⟩ | ⟨b, off, h2, h3, h4⟩
  · subst h0; exact absurd hi (by simp)
  · exact ⟨b, off, h1.trans h2, h3, h4 i hi⟩
def RowsB (w : World) (v : Value) (S : List (List (BitVec 8))) : Prop :=
  ∃ vs : List SV, SliceAt encS w v vs ∧ vs.length = S.length ∧ ∀ i (h1 : i < vs.length) (h2 : i < S.length), SliceAt encB w (encS vs[i]) S[i]
theorem RowsB.ext {w w' : World} {v : Value} {S : List (List (BitVec 8))} (h : RowsB w v S) (e : Ext w w') : RowsB w' v S := by
  obtain ⟨vs, h1, h2, h3⟩ := h
  exact ⟨vs, h1.ext e, h2, fun i a b => (h3 i a b).ext e⟩
theorem RowsB.shape {w : World} {v : Value} {S : List (List (BitVec 8))} (h : RowsB w v S) : ∃ ad cap, v = .slice ad S.length cap ∧ S.length ≤ cap := by
  obtain ⟨vs, ⟨ad, cap, hv, hc, _⟩, h2, _⟩ := h
  exact ⟨ad, cap, by rw [hv, h2], by rw [← h2]; exact hc⟩
theorem RowsB.get {w : World} {ad : Option Addr} {n cap : Nat} {S : List (List (BitVec 8))} (h : RowsB w (.slice ad n cap) S) (i : Nat) (hi : i < S.length) :
    ∃ b off, ad = some ⟨b, off, none⟩ ∧ b < w.heap.size ∧ ∃ a c, w.cell? ⟨b, off + i, none⟩ = some (.slice a S[i].length c) ∧ SliceAt encB w (.slice a S[i].length c) S[i] := by
  obtain ⟨vs, h1, h2, h3⟩ := h
  have hi2 : i < vs.length := by rw [h2]; exact hi
  obtain ⟨b, off, e1, e2, e3⟩ := h1.get0 i hi2
  have h4 := h3 i hi2 hi
  obtain ⟨a, c, hv, hc, hr⟩ := h4
  refine ⟨b, off, e1, e2, a, c, ?_, ⟨a, c, rfl, hc, hr⟩⟩
  rw [e3, hv]
def OwnL (w : World) (base : Nat) (v : Value) (S : List (List (BitVec 8))) : Prop :=
  ∃ vs : List SV, OwnG encS 47 w base v vs ∧ vs.length = S.length ∧ ∀ i (h1 : i < vs.length) (h2 : i < S.length), OwnG encB 5 w base (encS vs[i]) S[i]
theorem OwnL.nil {w : World} {base : Nat} : OwnL w base (.slice none 0 0) [] := ⟨[], OwnG.nil, rfl, fun i h => absurd h (by simp)⟩
theorem OwnL.ext {w w' : World} {base : Nat} {v : Value} {S : List (List (BitVec 8))} (h : OwnL w base v S) (e : Ext w w') : OwnL w' base v S := by
  obtain ⟨vs, h1, h2, h3⟩ := h
  exact ⟨vs, h1.ext e, h2, fun i a b => (h3 i a b).ext e⟩
theorem OwnL.lower {w : World} {base b' : Nat} {v : Value} {S : List (List (BitVec 8))} (h : OwnL w base v S) (hb : b' ≤ base) : OwnL w b' v S := by
  obtain ⟨vs, h1, h2, h3⟩ := h
  exact ⟨vs, h1.lower hb, h2, fun i a b => (h3 i a b).lower hb⟩
theorem OwnL.rows {w : World} {base : Nat} {v : Value} {S : List (List (BitVec 8))} (h : OwnL w base v S) : RowsB w v S := by
  obtain ⟨vs, h1, h2, h3⟩ := h
  exact ⟨vs, h1.slice, h2, fun i a b => (h3 i a b).slice⟩
theorem OwnL.shape {w : World} {base : Nat} {v : Value} {S : List (List (BitVec 8))} (h : OwnL w base v S) : ∃ a c, v = .slice a S.length c := by
  obtain ⟨a, c, e, _⟩ := h.rows.shape
  exact ⟨a, c, e⟩
theorem OwnL.lt {w : World} {base : Nat} {v : Value} {S : List (List (BitVec 8))} (h : OwnL w base v S) : ∀ g, v.ownBlock = some g → base ≤ g ∧ g < w.heap.size := by
  obtain ⟨vs, h1, _⟩ := h
  exact h1.lt
theorem rows_apart {α β : Type} {enc : α → Value} {enc' : β → Value} {e e' : TypeId} {w : World} {b b' : Nat} {v v' : Value} {l : List α} {l' : List β} (h : OwnG enc e w b v l) (h' : OwnG enc' e' w b' v' l') (hne : e ≠ e') : ∀ g, v.ownBlock = some g → v'.ownBlock ≠ some g := by
  intro g hg
  rcases h.2 with ⟨h1, _⟩ | ⟨g', cap, cur, h1, h2, h3, _⟩
  · rw [h1] at hg; simp [Value.ownBlock] at hg
  · rw [h1] at hg; simp [Value.ownBlock] at hg
    subst hg
    exact h'.not_box (show BoxAt w g' cur e from h3) hne
theorem wpList_append_row {ops : Array Oper} {rest : List Oper} {o : Oper} {a : Act} {w : World} {Q : Exit → Act → World → Prop} (hgd : o.guard = none) (s x : Operand)
    (ho : o.op = .call { callee := .builtin .append, args := #[s, x], argTypes := #[33, 33] })
    (B : Nat) (v : Value) (S : List (List (BitVec 8))) (hs : a.eval s = v) (hown : OwnL w B v S) {g n c : Nat} {ad : Option Addr} {l : List (BitVec 8)} (hx : a.eval x = .slice (some ⟨g, 0, none⟩) 1 1) (hc : w.cell? ⟨g, 0, none⟩ = some (.slice ad n c)) (hl : OwnG encB 5 w B (.slice ad n c) l)
    (hn : S.length ≤ 100000) (hbase : B ≤ w.heap.size)
    (h : ∀ v' w', OwnL w' B v' (S ++ [l]) → w.grownBy w' v.ownBlock → wpList Tryz.prog ops Q rest (a.put o.dst v') w') : wpList Tryz.prog ops Q (o :: rest) a w := by
  have hi0 : (Tryz.prog.info? 47).map (fun i => (i.zero, i.size, i.bytes)) = some (some (.slice none 0 0), 1, 24) := by kernel_rfl
  obtain ⟨i0, hi, hz0, hz1, hz2⟩ := info_parts hi0
  obtain ⟨vs, h1, h2, h3⟩ := hown
  refine wpList_append_one hgd s x _ ho B 47 i0 (.slice none 0 0) 24 Tryz.underlying33 hi hz0 hz1 hz2 rfl v _ _ hs h1 _ (.slice ad n c) rfl hx hc (by unfold maxLen; omega) (by omega) hbase (fun v' w' ho' hg' _ => h v' w' ?_ hg')
  have keep : ∀ {u : Value} {l : List (BitVec 8)}, OwnG encB 5 w B u l → OwnG encB 5 w' B u l := by
    intro u l hu
    refine OwnG.kept hu hg' ?_
    cases hv : u.ownBlock with
    | none => exact .inr rfl
    | some g => exact .inl fun e => rows_apart hu h1 (by decide) g hv e.symm
  refine ⟨vs ++ [(ad, n, c)], OwnG.snoc (enc := encS) (x := (ad, n, c)) ho', by simp [h2], fun i a b => ?_⟩
  by_cases hi : i < vs.length
  · rw [List.getElem_append_left hi, List.getElem_append_left (by omega)]
    exact keep (h3 i hi (by omega))
  · have : i = vs.length := by simp at a; omega
    subst this
    rw [List.getElem_append_right (by omega), List.getElem_append_right (by omega)]
    simp only [Nat.sub_self, List.getElem_singleton, h2]
    exact keep hl
end Go.Proofs.YtjabgpejmnpamaaGreatDoor

namespace Go.Proofs.YtjabgpejmnpamaaGreatDoor
open Go.RowKit
attribute [local go_sem] wrap8_un wrap_ub
theorem rpinfoS : (Tryz.prog.info? 47).map (fun i => (i.zero, i.size, i.bytes)) = some (some (.slice none 0 0), 1, 24) := by kernel_rfl
def rpOwnL (w : World) (base : Nat) (v : Value) (ls : List (List (BitVec 8))) : Prop :=
  ∃ vs : List Value, OwnG id 47 w base v vs ∧ vs.length = ls.length ∧ ∀ i (h1 : i < vs.length) (h2 : i < ls.length), OwnG encB 5 w base vs[i] ls[i]
theorem rpOwnL.nil (w : World) (base : Nat) : rpOwnL w base (.slice none 0 0) [] := ⟨[], OwnG.nil, rfl, fun i h => absurd h (by simp)⟩
theorem rpOwnL.ext {w w' : World} {base : Nat} {v : Value} {ls : List (List (BitVec 8))} (h : rpOwnL w base v ls) (e : Ext w w') : rpOwnL w' base v ls := by
  obtain ⟨vs, h1, h2, h3⟩ := h
  exact ⟨vs, h1.ext e, h2, fun i a b => (h3 i a b).ext e⟩
theorem rpOwnL.shape {w : World} {base : Nat} {v : Value} {ls : List (List (BitVec 8))} (h : rpOwnL w base v ls) : ∃ a c, v = .slice a ls.length c := by
  obtain ⟨vs, h1, h2, _⟩ := h
  obtain ⟨a, c, e⟩ := h1.shape
  exact ⟨a, c, by rw [e, h2]⟩
theorem rprows_apart {α β : Type} {enc : α → Value} {enc' : β → Value} {e e' : TypeId} {w : World} {b b' : Nat} {v v' : Value} {l : List α} {l' : List β} (h : OwnG enc e w b v l) (h' : OwnG enc' e' w b' v' l') (hne : e ≠ e') : ∀ g, v.ownBlock = some g → v'.ownBlock ≠ some g := by
  intro g hg
  rcases h.2 with ⟨h1, _⟩ | ⟨g', cap, cur, h1, h2, h3, _⟩
  · rw [h1] at hg; simp [Value.ownBlock] at hg
  · rw [h1] at hg; simp [Value.ownBlock] at hg
    subst hg
    exact h'.not_box (show BoxAt w g' cur e from h3) hne
theorem rpOwnL.snoc {w w' : World} {base : Nat} {v v' vb : Value} {ls : List (List (BitVec 8))} {lb : List (BitVec 8)} (vs : List Value) (h1 : OwnG id 47 w base v vs) (h2 : vs.length = ls.length) (h3 : ∀ i (h1 : i < vs.length) (h2 : i < ls.length), OwnG encB 5 w base vs[i] ls[i])
    (hb : OwnG encB 5 w base vb lb) (ho : w'.ownsRow base 47 1 v' (vs.length + 1) (vs.map id ++ [vb])) (hg : w.grownBy w' v.ownBlock) : rpOwnL w' base v' (ls ++ [lb]) := by
  have keep : ∀ {u : Value} {l : List (BitVec 8)}, OwnG encB 5 w base u l → OwnG encB 5 w' base u l := by
    intro u l hu
    refine OwnG.kept hu hg ?_
    cases hv : u.ownBlock with
    | none => exact .inr rfl
    | some g => exact .inl fun e => rprows_apart hu h1 (by decide) g hv e.symm
  refine ⟨vs ++ [vb], OwnG.snoc ho, by simp [h2], fun i a b => ?_⟩
  by_cases hi : i < vs.length
  · rw [List.getElem_append_left hi, List.getElem_append_left (by omega)]
    exact keep (h3 i hi (by omega))
  · have : i = vs.length := by simp at a; omega
    subst this
    rw [List.getElem_append_right (by omega), List.getElem_append_right (by omega)]
    simp only [Nat.sub_self, List.getElem_singleton, h2]
    exact keep hb
def rpbodyL (gen i m : BitVec 64) (c : List (BitVec 8)) : List (BitVec 8) := le 8 gen ++ le 4 i ++ le 4 m ++ [BitVec.ofNat 8 c.length] ++ c
def rpsectorL (gen i m : BitVec 64) (c : List (BitVec 8)) : List (BitVec 8) := rpseal8 (rpbodyL gen i m c)
theorem bodyL_len (gen i m : BitVec 64) (c : List (BitVec 8)) : (rpbodyL gen i m c).length = 17 + c.length := by simp [rpbodyL, le_length]; omega
theorem sectorL_len (gen i m : BitVec 64) (c : List (BitVec 8)) : (rpsectorL gen i m c).length = 25 + c.length := by rw [rpsectorL, seal8_len, bodyL_len]; omega
def numL (n : Nat) : Nat := max 1 ((n + 31) / 32)
def chunkL (l : List (BitVec 8)) (i : Nat) : List (BitVec 8) := (l.drop (32 * i)).take 32
def chunksK (gen : BitVec 64) (l : List (BitVec 8)) (k : Nat) : List (List (BitVec 8)) := (List.range k).map fun i => rpsectorL gen (BitVec.ofNat 64 i) (BitVec.ofNat 64 (numL l.length)) (chunkL l i)
def chunksL (gen : BitVec 64) (l : List (BitVec 8)) : List (List (BitVec 8)) := chunksK gen l (numL l.length)
theorem chunksK_succ (gen : BitVec 64) (l : List (BitVec 8)) (k : Nat) : chunksK gen l (k + 1) = chunksK gen l k ++ [rpsectorL gen (BitVec.ofNat 64 k) (BitVec.ofNat 64 (numL l.length)) (chunkL l k)] := by simp [chunksK, List.range_succ]
theorem chunksK_len (gen : BitVec 64) (l : List (BitVec 8)) (k : Nat) : (chunksK gen l k).length = k := by simp [chunksK]
theorem chunkL_len (l : List (BitVec 8)) (i : Nat) : (chunkL l i).length ≤ 32 := by unfold chunkL; rw [List.length_take]; omega
end Go.Proofs.YtjabgpejmnpamaaGreatDoor

namespace Go.Proofs.YtjabgpejmnpamaaGreatDoor
open Go.RowKit
theorem rprun_min2 {P : Program} (w : World) (ts : Array TypeId) (t : TypeId) (a b : Int) :
    (Builtin.min_ ts t #[.int .i64 a, .int .i64 b]).run P w = .ok (.int .i64 (min a b)) w := by
  have e : (if b < a then b else a) = min a b := by split <;> omega
  have : (Builtin.min_ ts t #[.int .i64 a, .int .i64 b]).run P w = .ok (.int .i64 (if b < a then b else a)) w := rfl
  rw [this, e]
theorem run_max2 {P : Program} (w : World) (ts : Array TypeId) (t : TypeId) (a b : Int) :
    (Builtin.max_ ts t #[.int .i64 a, .int .i64 b]).run P w = .ok (.int .i64 (max a b)) w := by
  have e : (if a < b then b else a) = max a b := by split <;> omega
  have : (Builtin.max_ ts t #[.int .i64 a, .int .i64 b]).run P w = .ok (.int .i64 (if a < b then b else a)) w := rfl
  rw [this, e]
def ChunksEnd (W : World) (gen : BitVec 64) (l : List (BitVec 8)) (e : Ending) (w' : World) : Prop :=
  ∃ v', e = .returned (.tuple #[v', .int .i64 0]) ∧ rpOwnL w' W.heap.size v' (chunksL gen l) ∧ Below W.heap.size W w'
end Go.Proofs.YtjabgpejmnpamaaGreatDoor
