/-
  Chapter 29 (replica): Chunks of the reference.
-/
import Derived.Test.YtknpdoepjihceaaRpB
namespace Go.Proofs.Ytknpdoepjihceaa
open Go.RowKit
set_option linter.unusedVariables false

theorem run_min2 {P : Program} (w : World) (ts : Array TypeId) (t : TypeId) (a b : Int) :
    (Builtin.min_ ts t #[.int .i64 a, .int .i64 b]).run P w = .ok (.int .i64 (min a b)) w := by
  have e : (if b < a then b else a) = min a b := by split <;> omega
  have : (Builtin.min_ ts t #[.int .i64 a, .int .i64 b]).run P w = .ok (.int .i64 (if b < a then b else a)) w := rfl
  rw [this, e]
theorem run_max2 {P : Program} (w : World) (ts : Array TypeId) (t : TypeId) (a b : Int) :
    (Builtin.max_ ts t #[.int .i64 a, .int .i64 b]).run P w = .ok (.int .i64 (max a b)) w := by
  have e : (if a < b then b else a) = max a b := by split <;> omega
  have : (Builtin.max_ ts t #[.int .i64 a, .int .i64 b]).run P w = .ok (.int .i64 (if a < b then b else a)) w := rfl
  rw [this, e]

/-- what Chunks returns -/
def ChunksEnd (W : World) (gen : BitVec 64) (l : List (BitVec 8)) (e : Ending) (w' : World) : Prop :=
  ∃ v', e = .returned (.tuple #[v', .int .i64 0]) ∧ OwnL w' W.heap.size v' (chunksL gen l) ∧ Below W.heap.size W w'

set_option maxRecDepth 100000 in
set_option maxHeartbeats 800000 in
theorem rchunks_any (gen : BitVec 64) (v : Value) (l : List (BitVec 8)) (w : World) (hl : l.length ≤ 1048576) (h : SliceAt encB w v l) :
    Calls Try.prog 10 #[v, encU gen] w (ChunksEnd w gen l) := by
  obtain ⟨i0, hi, hi0, hi1, hi2⟩ := info_parts infoS
  have HS := Lib.hid h
  obtain ⟨ad, cap, rfl, hca, _⟩ := h
  obtain ⟨n, hn⟩ : ∃ n, l.length = n := ⟨_, rfl⟩
  obtain ⟨m, hm⟩ : ∃ m, numL n = m := ⟨_, rfl⟩
  have hm1 : 1 ≤ m := by rw [← hm]; unfold numL; omega
  have hm2 : 32 * (m - 1) ≤ n := by rw [← hm]; unfold numL; omega
  have hm3 : m ≤ 32768 := by rw [← hm]; unfold numL; omega
  have hm4 : n ≤ 32 * m := by rw [← hm]; unfold numL; omega
  have hMax := fun (w : World) (ts : Array TypeId) (t : TypeId) => run_max2 (P := Try.prog) w ts t 1 (((n : Int) + 31) / 32)
  rw [show max (1 : Int) (((n : Int) + 31) / 32) = (m : Int) by rw [← hm]; unfold numL; omega] at hMax
  have HN := Lib.hid hn
  have HM := Lib.hid hm
  rw [hn] at HS hca hl ⊢
  have hbig : decide ((1048576 : Int) < (n : Int)) = false := by rw [decide_eq_false_iff_not]; omega
  have hn9 : n ≤ 2000000 := by omega
  clear hn hm hl
  go_enter Try.func10, Try.ntmps10
  go_wp2_with fail
  go_loopw [8, 7] (fun i vo wr => ∃ k : Nat, k ≤ m ∧ i = .int .i64 k ∧ OwnL wr w.heap.size vo (chunksK gen l k) ∧ Below w.heap.size w wr) (fun i _ _ => m - (intOf i).toNat)
  case atStart => exact ⟨0, by omega, rfl, OwnL.nil _ _, Below.refl _ _⟩
  case round =>
    obtain ⟨k, hk, rfl, ho, hx⟩ := hrel
    obtain ⟨ao, co, hvo⟩ := ho.shape
    rw [chunksK_len] at hvo
    subst hvo
    have HO := Lib.hid ho
    have hsx := hx.size
    clear ho
    by_cases hlt : k < m
    · have hlo : 32 * k ≤ n := by omega
      obtain ⟨hi_, hhi⟩ : ∃ hi_, min (32 * k + 32) n = hi_ := ⟨_, rfl⟩
      have hMin := fun (w : World) (ts : Array TypeId) (t : TypeId) => run_min2 (P := Try.prog) w ts t (32 * (k : Int) + 32) (n : Int)
      rw [show min (32 * (k : Int) + 32) (n : Int) = (hi_ : Int) by omega] at hMin
      have hb1 : 32 * k ≤ hi_ := by omega
      have hb2 : hi_ ≤ n := by omega
      have n1 : (32 * (k : Int)).toNat = 32 * k := by omega
      obtain ⟨A, hA, HC⟩ := HS.out.cutA (32 * k) hi_ hb1 (by rw [HN.out]; exact hb2)
      have HCE : Hid ((l.drop (32 * k)).take (hi_ - 32 * k) = chunkL l k) := by
        show _ = _; unfold chunkL
        rcases Nat.le_total (32 * k + 32) n with h' | h'
        · rw [show hi_ - 32 * k = 32 by omega]
        · rw [List.take_of_length_le (by rw [List.length_drop, HN.out]; omega), List.take_of_length_le (by rw [List.length_drop, HN.out]; omega)]
      rw [HCE.out] at HC
      have HC := Lib.hid HC
      clear hhi
      go_wp2_with fail
      go_at_call 17
      refine (sector_any gen k m _ (chunkL l k) _ (by omega) (by omega) (by have := chunkL_len l k; omega) (SliceAt.ext HC.out hx)).mono ?_
      rintro e w1 ⟨v1, rfl, ho1, hb1⟩
      obtain ⟨vs, hvs1, hvs2, hvs3⟩ := HO.out.ext hb1
      have hb1' : Below w.heap.size w w1 := hx.trans (Below.mono hb1 hsx)
      have hlv : Hid (vs.length = k) := by show _ = _; rw [hvs2, chunksK_len]
      have HV1 := Lib.hid hvs1
      have HV2 := Lib.hid hvs2
      have HV3 := Lib.hid hvs3
      have HB := Lib.hid (ho1.lower hsx)
      obtain ⟨a1, d1, e1⟩ := ho1.shape
      subst e1
      clear hvs1 hvs2 hvs3 ho1
      go_wp2_with (at_builtin; refine Classical.byContradiction (fun hN => ?_))
      refine hN ?_
      clear hN
      refine wpList_append_one rfl _ _ _ rfl w.heap.size 22 i0 (.slice none 0 0) 24 Try.underlying25 hi hi0 hi1 hi2 rfl _ _ _ rfl (World.ownsRow.alloc HV1.out _) _ _ rfl rfl (cell_new1 _ _ _) (by rw [hlv.out]; unfold maxLen; omega) (by rw [hlv.out]; omega) (by have := hb1'.size; simp; omega) ?_
      intro v2 w2 ho2 hg2 hat2
      have HO2 := Lib.hid (OwnL.snoc vs (HV1.out.ext (Ext.alloc _ _)) HV2.out (fun i a b => (HV3.out i a b).ext (Ext.alloc _ _)) (HB.out.ext (Ext.alloc _ _)) ho2 hg2)
      have hb2 : Below w.heap.size w w2 := (hb1'.alloc hb1'.size _).grown hg2 (by have := hb1'.size; simp; omega) (fun q hq => (HV1.out.lt q hq).1)
      clear ho2 hg2 hat2
      go_wp2
      go_roundw
      case rel => exact ⟨k + 1, by omega, by go_num, by rw [chunksK_succ, HN.out, HM.out]; exact HO2.out, hb2⟩
      case measure => show m - (intOf (.int .i64 ((k : Int) + 1))).toNat < m - (intOf (.int .i64 (k : Int))).toNat; unfold intOf; simp only; omega
    · have hkm : k = m := by omega
      subst hkm
      have HE : Hid (chunksK gen l k = chunksL gen l) := by show _ = _; unfold chunksL; rw [HN.out, HM.out]
      go_wp2_with fail
      go_ret2
      exact ⟨_, rfl, HE.out ▸ HO.out, hx⟩
theorem rchunks_no (gen : BitVec 64) (v : Value) (l : List (BitVec 8)) (w : World) (hl : 1048576 < l.length) (hl2 : l.length ≤ maxLen) (h : SliceAt encB w v l) :
    Calls Try.prog 10 #[v, encU gen] w fun e w' => e = .returned (.tuple #[.slice none 0 0, .int .i64 7]) ∧ w = w' := by
  obtain ⟨ad, cap, rfl, hca, _⟩ := h
  unfold maxLen at hl2
  go_enter Try.func10, Try.ntmps10
  go_wp2_with fail
  go_ret2
  exact ⟨rfl, rfl⟩
end Go.Proofs.Ytknpdoepjihceaa
