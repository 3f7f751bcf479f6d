/-
  Chapter 25 (piecesum): a block of bytes that is written; put.
-/
import Derived.Test.YtinnikbjphkkiaaPutR
import Derived.Laws.CopyOwn
namespace Go.Proofs.Ytinnikbjphkkiaa
open Go.RowKit
set_option linter.unusedVariables false
attribute [local go_sem] wrap8_un or_un wrap_ub

/-- block g is a row of bytes that reads as l -/
def RowAt (w : World) (g : Nat) (l : List (BitVec 8)) (t : TypeId) : Prop := w.heap[g]? = some (.cells (l.map encB).toArray t (0, 0))
theorem RowAt.lt {w : World} {g : Nat} {l : List (BitVec 8)} {t : TypeId} (h : RowAt w g l t) : g < w.heap.size := (Array.getElem?_eq_some_iff.1 h).1
theorem RowAt.cell {w : World} {g : Nat} {l : List (BitVec 8)} {t : TypeId} (h : RowAt w g l t) (i : Nat) (hi : i < l.length) : w.cell? ⟨g, i, none⟩ = some (encB l[i]) := by
  unfold World.cell?
  simp only [show w.heap[g]? = _ from h, Option.isSome_none, Bool.false_eq_true, if_false]
  simp [hi]
theorem RowAt.free {w : World} {g : Nat} {l : List (BitVec 8)} {t : TypeId} (h : RowAt w g l t) (i : Nat) : w.frozen? ⟨g, i, none⟩ = false := frozen_of_row w g i _ t h
theorem RowAt.ext {w w' : World} {g : Nat} {l : List (BitVec 8)} {t : TypeId} (h : RowAt w g l t) (e : Ext w w') : RowAt w' g l t := (e.block g h.lt).trans h
theorem RowAt.set {w : World} {g : Nat} {l : List (BitVec 8)} {t : TypeId} (h : RowAt w g l t) (i : Nat) (x : BitVec 8) : RowAt (w.setCell ⟨g, i, none⟩ (encB x)) g (l.set i x) t := by
  have := heap_setCell_same w g i _ t (encB x) h
  unfold RowAt
  rw [this]
  congr 2
  rw [List.map_set]
  simp
theorem RowAt.slice {w : World} {g : Nat} {l : List (BitVec 8)} {t : TypeId} (h : RowAt w g l t) (i n cap : Nat) (hi : i + n ≤ l.length) (hc : n ≤ cap) : SliceAt encB w (.slice (some ⟨g, i, none⟩) n cap) ((l.drop i).take n) := by
  have hl : ((l.drop i).take n).length = n := by rw [List.length_take, List.length_drop, Nat.min_eq_left (by omega)]
  refine ⟨_, cap, by rw [hl], by omega, .inr ⟨g, i, rfl, h.lt, fun j hj => ?_⟩⟩
  rw [hl] at hj
  rw [h.cell (i + j) (by omega), List.getElem_take, List.getElem_drop]
theorem le_snoc (k : Nat) (x : BitVec 64) : le (k + 1) x = le k x ++ [(x >>> (8 * k)).setWidth 8] := by
  induction k generalizing x with
  | zero => simp [le]
  | succ k ih =>
    rw [le, ih (x >>> 8), le, ← BitVec.shiftRight_add, show 8 + 8 * k = 8 * (k + 1) by omega]
    simp
/-- k bytes of a number laid into a row from a place on -/
def laid8 (l : List (BitVec 8)) (off k : Nat) (x : BitVec 64) : List (BitVec 8) := l.take off ++ (le k x ++ l.drop (off + k))
theorem laid8_len (l : List (BitVec 8)) (off k : Nat) (x : BitVec 64) (h : off + k ≤ l.length) : (laid8 l off k x).length = l.length := by
  simp only [laid8, List.length_append, List.length_take, List.length_drop, le_length]; omega
theorem laid8_zero (l : List (BitVec 8)) (off : Nat) (x : BitVec 64) : laid8 l off 0 x = l := by simp [laid8, le]
theorem laid8_step (l : List (BitVec 8)) (off k : Nat) (x : BitVec 64) (h : off + k < l.length) : (laid8 l off k x).set (off + k) ((x >>> (8 * k)).setWidth 8) = laid8 l off (k + 1) x := by
  unfold laid8
  have h1 : (l.take off).length = off := by rw [List.length_take]; omega
  rw [List.set_append_right _ _ (by omega), h1, List.set_append_right _ _ (by rw [le_length]; omega), le_length, show off + k - off - k = 0 by omega, List.drop_eq_getElem_cons h, List.set_cons_zero, le_snoc]
  simp [Nat.add_assoc]
theorem grown_refl (w : World) (o : Option Nat) : w.grownBy w o := ⟨rfl, rfl, rfl, Nat.le_refl _, fun _ _ _ => rfl⟩
theorem grown_trans {w w1 w2 : World} {o : Option Nat} (h : w.grownBy w1 o) (k : w1.grownBy w2 o) : w.grownBy w2 o :=
  ⟨k.os.trans h.os, k.tape.trans h.tape, k.output.trans h.output, Nat.le_trans h.size k.size, fun i hi hne => (k.block i (Nat.lt_of_lt_of_le hi h.size) hne).trans (h.block i hi hne)⟩
theorem grown_set (w : World) (b o : Nat) (v : Value) : w.grownBy (w.setCell ⟨b, o, none⟩ v) (some b) :=
  ⟨rfl, rfl, rfl, by simp, fun k _ hk => Below.heap_setCell _ _ _ k (fun e => hk (by rw [e]))⟩

set_option maxHeartbeats 400000 in
theorem pput_any (g off n cap : Nat) (l : List (BitVec 8)) (t : TypeId) (x : BitVec 64) (w : World) (hn : n ≤ 8) (hnc : n ≤ cap) (hl : off + n ≤ l.length) (hl2 : l.length ≤ 100000) (h : RowAt w g l t) :
    Calls Try.prog 26 #[.slice (some ⟨g, off, none⟩) n cap, encU x] w fun e w' => e = .returned (.tuple #[]) ∧ RowAt w' g (laid8 l off n x) t ∧ w.grownBy w' (some g) := by
  have HR := Lib.hid h
  clear h
  go_enter Try.func26, Try.ntmps26
  go_wp2
  go_loopw [7] (fun i wr => ∃ k : Nat, k ≤ n ∧ i = .int .i64 k ∧ RowAt wr g (laid8 l off k x) t ∧ w.grownBy wr (some g)) (fun i _ => n - (intOf i).toNat)
  case atStart => exact ⟨0, by omega, rfl, by rw [laid8_zero]; exact HR.out, grown_refl _ _⟩
  case round =>
    obtain ⟨k, hk, rfl, hr, hg⟩ := hrel
    have HR2 := Lib.hid hr
    have HG := Lib.hid hg
    by_cases hlt : k < n
    · have hll := laid8_len l off k x (by omega)
      have hc := hr.cell (off + k) (by omega)
      have hf := hr.free (off + k)
      have hlt2 := hr.lt
      have HS := Lib.hid (hr.set (off + k) ((x >>> (8 * k)).setWidth 8))
      have HST := Lib.hid (laid8_step l off k x (by omega))
      have hsh := shr_un x (8 * k)
      have HGS := Lib.hid (grown_trans hg (grown_set wr g (off + k) (encB ((x >>> (8 * k)).setWidth 8))))
      generalize (laid8 l off k x)[off + k]'(by omega) = z at hc
      clear hr hg hll
      go_wp2
      go_roundw
      case rel => exact ⟨k + 1, by omega, by go_num, by rw [← HST.out]; exact HS.out, HGS.out⟩
      case measure => simp [intOf]; omega
    · have hkn : k = n := by omega
      subst hkn
      clear hr hg
      go_wp2
      go_end0
      exact ⟨rfl, HR2.out, HG.out⟩
theorem SliceAt.at_add {α : Type} {enc : α → Value} {w : World} {b off n cap : Nat} {l : List α} (h : SliceAt enc w (.slice (some ⟨b, off, none⟩) n cap) l) : ∀ j u, (l.map enc)[j]? = some u → w.cell? ((⟨b, off, none⟩ : Addr).add j) = some u := by
  intro j u hj
  obtain ⟨ad, cap', hv, hca, h⟩ := h
  injection hv with h1 h2 h3
  rw [List.getElem?_map] at hj
  rcases h with ⟨h0, _⟩ | ⟨b', off', h4, h5, h6⟩
  · rw [h0] at hj; simp at hj
  · rw [← h1] at h4; cases h4
    have hjl : j < l.length := by
      rcases Nat.lt_or_ge j l.length with h' | h'
      · exact h'
      · rw [List.getElem?_eq_none h'] at hj; cases hj
    rw [List.getElem?_eq_getElem hjl] at hj
    rw [add_plain, h6 j hjl]
    exact hj
theorem map_splice {α β : Type} (f : α → β) (L cs : List α) (off : Nat) : splice (L.map f) off (cs.map f) = (splice L off cs).map f := by simp [splice]
theorem pput_int (g off n cap : Nat) (l : List (BitVec 8)) (t : TypeId) (m : Int) (w : World) (hm : 0 ≤ m ∧ m ≤ 18446744073709551615) (hn : n ≤ 8) (hnc : n ≤ cap) (hl : off + n ≤ l.length) (hl2 : l.length ≤ 100000) (h : RowAt w g l t) :
    Calls Try.prog 26 #[.slice (some ⟨g, off, none⟩) n cap, .int .u64 m] w fun e w' => e = .returned (.tuple #[]) ∧ RowAt w' g (laid8 l off n (BitVec.ofInt 64 m)) t ∧ w.grownBy w' (some g) := by
  have := pput_any g off n cap l t (BitVec.ofInt 64 m) w hn hnc hl hl2 h
  unfold encU at this
  rw [un_ofInt m hm] at this
  exact this
theorem wrap_ofInt (n : Int) : IntKind.u64.wrap n = un (BitVec.ofInt 64 n) := by
  have : IntKind.u64.wrap n = n % 18446744073709551616 := by simp only [IntKind.wrap, IntKind.bits, IntKind.signed]; simp
  rw [this]; unfold un; rw [BitVec.toNat_ofInt]; simp; omega
/-- the sum of a piece -/
def psum (g p : Int) (v : BitVec 64) (d : List (BitVec 8)) : BitVec 64 := Crc.sum (le 4 (BitVec.ofInt 64 g) ++ le 4 (BitVec.ofInt 64 p) ++ le 8 v ++ d)
def zero24 : List (BitVec 8) := List.replicate 24 0#8
theorem infoC : (Try.prog.info? 5).map (·.size) = some 1 := by kernel_rfl

set_option maxHeartbeats 800000 in
theorem psum_any (gr pc : Int) (v : BitVec 64) (x0 x1 x2 x3 x4 x5 x6 x7 : BitVec 8) (w : World) (hgr : -9223372036854775808 ≤ gr ∧ gr ≤ 9223372036854775807) (hpc : -9223372036854775808 ≤ pc ∧ pc ≤ 9223372036854775807) :
    Calls Try.prog 11 #[.int .i64 gr, .int .i64 pc, encU v, .agg #[encB x0, encB x1, encB x2, encB x3, encB x4, encB x5, encB x6, encB x7]] w fun e w' => e = .returned (encU (psum gr pc v [x0, x1, x2, x3, x4, x5, x6, x7])) ∧ Below w.heap.size w w' := by
  have hw1 := wrap_ofInt gr
  have hw2 := wrap_ofInt pc
  go_enter Try.func11, Try.ntmps11
  go_wp2_with fail
  have hR : RowAt ((w.alloc (.cells #[encB x0, encB x1, encB x2, encB x3, encB x4, encB x5, encB x6, encB x7] 24)).alloc (.cells #[.int .u8 0, .int .u8 0, .int .u8 0, .int .u8 0, .int .u8 0, .int .u8 0, .int .u8 0, .int .u8 0, .int .u8 0, .int .u8 0, .int .u8 0, .int .u8 0, .int .u8 0, .int .u8 0, .int .u8 0, .int .u8 0, .int .u8 0, .int .u8 0, .int .u8 0, .int .u8 0, .int .u8 0, .int .u8 0, .int .u8 0, .int .u8 0] 52)) (w.heap.size + 1) zero24 52 := by
    have h := heap_alloc_new (w.alloc (.cells #[encB x0, encB x1, encB x2, encB x3, encB x4, encB x5, encB x6, encB x7] 24)) (.cells #[.int .u8 0, .int .u8 0, .int .u8 0, .int .u8 0, .int .u8 0, .int .u8 0, .int .u8 0, .int .u8 0, .int .u8 0, .int .u8 0, .int .u8 0, .int .u8 0, .int .u8 0, .int .u8 0, .int .u8 0, .int .u8 0, .int .u8 0, .int .u8 0, .int .u8 0, .int .u8 0, .int .u8 0, .int .u8 0, .int .u8 0, .int .u8 0] 52)
    have e : (w.alloc (.cells #[encB x0, encB x1, encB x2, encB x3, encB x4, encB x5, encB x6, encB x7] 24)).heap.size = w.heap.size + 1 := by simp
    rw [e] at h
    exact h
  have hx : Ext w ((w.alloc (.cells #[encB x0, encB x1, encB x2, encB x3, encB x4, encB x5, encB x6, encB x7] 24)).alloc (.cells #[.int .u8 0, .int .u8 0, .int .u8 0, .int .u8 0, .int .u8 0, .int .u8 0, .int .u8 0, .int .u8 0, .int .u8 0, .int .u8 0, .int .u8 0, .int .u8 0, .int .u8 0, .int .u8 0, .int .u8 0, .int .u8 0, .int .u8 0, .int .u8 0, .int .u8 0, .int .u8 0, .int .u8 0, .int .u8 0, .int .u8 0, .int .u8 0] 52)) := Ext.trans (Ext.alloc _ _) (Ext.alloc _ _)
  have hD : SliceAt encB ((w.alloc (.cells #[encB x0, encB x1, encB x2, encB x3, encB x4, encB x5, encB x6, encB x7] 24)).alloc (.cells #[.int .u8 0, .int .u8 0, .int .u8 0, .int .u8 0, .int .u8 0, .int .u8 0, .int .u8 0, .int .u8 0, .int .u8 0, .int .u8 0, .int .u8 0, .int .u8 0, .int .u8 0, .int .u8 0, .int .u8 0, .int .u8 0, .int .u8 0, .int .u8 0, .int .u8 0, .int .u8 0, .int .u8 0, .int .u8 0, .int .u8 0, .int .u8 0] 52)) (.slice (some ⟨w.heap.size, 0, none⟩) 8 8) [x0, x1, x2, x3, x4, x5, x6, x7] :=
    (SliceAt.lit (enc := encB) w [x0, x1, x2, x3, x4, x5, x6, x7] 24 (0, 0) _ rfl).ext (Ext.alloc _ _)
  have hsz : ((w.alloc (.cells #[encB x0, encB x1, encB x2, encB x3, encB x4, encB x5, encB x6, encB x7] 24)).alloc (.cells #[.int .u8 0, .int .u8 0, .int .u8 0, .int .u8 0, .int .u8 0, .int .u8 0, .int .u8 0, .int .u8 0, .int .u8 0, .int .u8 0, .int .u8 0, .int .u8 0, .int .u8 0, .int .u8 0, .int .u8 0, .int .u8 0, .int .u8 0, .int .u8 0, .int .u8 0, .int .u8 0, .int .u8 0, .int .u8 0, .int .u8 0, .int .u8 0] 52)).heap.size = w.heap.size + 2 := by simp
  generalize hW : (w.alloc (.cells #[encB x0, encB x1, encB x2, encB x3, encB x4, encB x5, encB x6, encB x7] 24)).alloc (.cells #[.int .u8 0, .int .u8 0, .int .u8 0, .int .u8 0, .int .u8 0, .int .u8 0, .int .u8 0, .int .u8 0, .int .u8 0, .int .u8 0, .int .u8 0, .int .u8 0, .int .u8 0, .int .u8 0, .int .u8 0, .int .u8 0, .int .u8 0, .int .u8 0, .int .u8 0, .int .u8 0, .int .u8 0, .int .u8 0, .int .u8 0, .int .u8 0] 52) = W at *
  have HR := Lib.hid hR
  have HD := Lib.hid hD
  have hsz2 : w.heap.size + 1 < W.heap.size := by omega
  clear hW hR hD hsz
  go_wp2_with fail
  go_at_call 26
  refine (pput_any (w.heap.size + 1) 0 4 24 zero24 52 (BitVec.ofInt 64 gr) _ (by omega) (by omega) (by decide) (by decide) HR.out).mono ?_
  rintro e w1 ⟨rfl, hr1, hg1⟩
  have HR1 := Lib.hid hr1
  have HG1 := Lib.hid hg1
  have hs1 := hg1.size
  clear hr1 hg1
  go_wp2_with fail
  go_at_call 26
  refine (pput_any (w.heap.size + 1) 4 4 20 (laid8 zero24 0 4 (BitVec.ofInt 64 gr)) 52 (BitVec.ofInt 64 pc) _ (by omega) (by omega) (by rw [laid8_len _ _ _ _ (by decide)]; decide) (by rw [laid8_len _ _ _ _ (by decide)]; decide) HR1.out).mono ?_
  rintro e w2 ⟨rfl, hr2, hg2⟩
  have HR2 := Lib.hid hr2
  have HG2 := Lib.hid (grown_trans HG1.out hg2)
  have hs2 := hg2.size
  clear hr2 hg2
  go_wp2_with fail
  go_at_call 26
  have HL2 : Hid ((laid8 (laid8 zero24 0 4 (BitVec.ofInt 64 gr)) 4 4 (BitVec.ofInt 64 pc)).length = 24) := by
    show _ = _; rw [laid8_len _ _ _ _ (by rw [laid8_len _ _ _ _ (by decide)]; decide), laid8_len _ _ _ _ (by decide)]; rfl
  refine (pput_any (w.heap.size + 1) 8 8 16 (laid8 (laid8 zero24 0 4 (BitVec.ofInt 64 gr)) 4 4 (BitVec.ofInt 64 pc)) 52 v _ (by omega) (by omega) (by rw [HL2.out]; decide) (by rw [HL2.out]; decide) HR2.out).mono ?_
  rintro e w3 ⟨rfl, hr3, hg3⟩
  have HL3 : Hid ((laid8 (laid8 (laid8 zero24 0 4 (BitVec.ofInt 64 gr)) 4 4 (BitVec.ofInt 64 pc)) 8 8 v).length = 24) := by
    show _ = _; rw [laid8_len _ _ _ _ (by rw [HL2.out]; decide)]; exact HL2.out
  have HFN : Hid (splice (laid8 (laid8 (laid8 zero24 0 4 (BitVec.ofInt 64 gr)) 4 4 (BitVec.ofInt 64 pc)) 8 8 v) 16 [x0, x1, x2, x3, x4, x5, x6, x7] = le 4 (BitVec.ofInt 64 gr) ++ le 4 (BitVec.ofInt 64 pc) ++ le 8 v ++ [x0, x1, x2, x3, x4, x5, x6, x7]) := rfl
  generalize laid8 (laid8 (laid8 zero24 0 4 (BitVec.ofInt 64 gr)) 4 4 (BitVec.ofInt 64 pc)) 8 8 v = L3 at *
  have HR3 := Lib.hid hr3
  have HG3 := Lib.hid (grown_trans HG2.out hg3)
  have hs3 := hg3.size
  have hd3 : SliceAt encB w3 (.slice (some ⟨w.heap.size, 0, none⟩) 8 8) [x0, x1, x2, x3, x4, x5, x6, x7] := by
    obtain ⟨ad, cap, hv, hca, h⟩ := HD.out
    refine ⟨ad, cap, hv, hca, h.imp id ?_⟩
    rintro ⟨b, off, ha, hb, hc⟩
    have hbe : b = w.heap.size := by rw [ha] at hv; injection hv with h1; injection h1 with h1; injection h1 with h1; exact h1.symm
    refine ⟨b, off, ha, by omega, fun i hi => ?_⟩
    rw [World.cell?_of_block (w := W) (HG3.out.block b hb (by rw [hbe]; intro e; injection e with e; omega))]
    exact hc i hi
  have HB3 := Lib.hid (Below.grown hx HG3.out hx.size (fun k hk => by cases hk; omega))
  have HD3 := Lib.hid hd3
  clear hr3 hg3 hd3
  go_wp2_with fail
  refine wp_region_ext [(0, true), (1, true), (2, false)] (by kernel_rfl) (by kernel_rfl) ?_
  iterate 2 (first
   | (refine ext_move rfl rfl (by rfl) (by rfl) ?_; simp only [Act.put, List.setIfInBounds_toArray, List.set_cons_zero, List.set_cons_succ])
   | (refine ext_assign rfl rfl (by rfl) (by rfl) ?_; simp only [Act.put, List.setIfInBounds_toArray, List.set_cons_zero, List.set_cons_succ])
   | (refine ext_pick_t rfl rfl (by rfl) (by rfl) (by rfl) ?_; simp only [Act.put, List.setIfInBounds_toArray, List.set_cons_zero, List.set_cons_succ])
   | (refine ext_pick_f rfl rfl (by rfl) (by rfl) (by rfl) ?_; simp only [Act.put, List.setIfInBounds_toArray, List.set_cons_zero, List.set_cons_succ])
   | (apply ext_take rfl (by rfl)
      · intro w' hS
        have hSc := hS.cells
        (try simp only [World.size_drew, World.cell?_drew] at hSc)
        go_simp
        (try simp (disch := omega) only [i64_id, u64_id, ↓IntWalk.iteOmega, Int.tdiv_eq_ediv_of_nonneg, Int.tmod_eq_emod_of_nonneg])
        try rfl
      simp only [Act.put, List.setIfInBounds_toArray, List.set_cons_zero, List.set_cons_succ])
   | (refine ext_pass rfl (by rfl) ?_; simp only [Act.put, List.setIfInBounds_toArray, List.set_cons_zero, List.set_cons_succ]))
  (refine ext_last rfl (by rfl) (by kernel_rfl) (fun K hK => ?_)
   refine wp_of_list rfl ?_
   refine wpList_copy_splice rfl (.tmp 21) (.tmp 22) 54 54 rfl 5 Try.underlying54 infoC (some ⟨w.heap.size + 1, 16, none⟩) (some ⟨w.heap.size, 0, none⟩) 8 8 8 8 rfl rfl (w.heap.size + 1) 16 (L3.map encB) 52 HR3.out ([x0, x1, x2, x3, x4, x5, x6, x7].map encB) rfl ?_ (by rw [List.length_map, List.length_map, HL3.out]; exact (by decide : 24 ≤ 24)) ?_ w.heap.size w (Below.drew HB3.out) (by omega) ?_
   · intro _
     exact ⟨rfl, _, rfl, (HD3.out.ext (Ext.drew _)).at_add⟩
   · intro u hu
     obtain ⟨y, _, rfl⟩ := List.mem_map.1 hu
     rfl
   intro w4 hg4 hb4
   refine hK _ _ ?_
   clear hK K
   (try simp only [Act.put, List.setIfInBounds_toArray, List.set_cons_zero, List.set_cons_succ]))
  rw [map_splice, HFN.out] at hg4
  have HR4 : Hid (RowAt w4 (w.heap.size + 1) (le 4 (BitVec.ofInt 64 gr) ++ le 4 (BitVec.ofInt 64 pc) ++ le 8 v ++ [x0, x1, x2, x3, x4, x5, x6, x7]) 52) := hg4.out
  have HS4 : Hid (SliceAt encB w4 (.slice (some ⟨w.heap.size + 1, 0, none⟩) 24 24) (le 4 (BitVec.ofInt 64 gr) ++ le 4 (BitVec.ofInt 64 pc) ++ le 8 v ++ [x0, x1, x2, x3, x4, x5, x6, x7])) := HR4.out.slice 0 24 24 (by simp [le_length]) (by omega)
  clear hg4
  go_wp2_with fail
  go_at_call 27
  refine (sum_as (psum gr pc v [x0, x1, x2, x3, x4, x5, x6, x7]) _ _ _ rfl (by unfold maxLen; simp [le_length]) HS4.out).mono ?_
  rintro e w5 ⟨rfl, rfl⟩
  go_wp2_with fail
  go_ret
  exact ⟨rfl, hb4⟩
end Go.Proofs.Ytinnikbjphkkiaa
