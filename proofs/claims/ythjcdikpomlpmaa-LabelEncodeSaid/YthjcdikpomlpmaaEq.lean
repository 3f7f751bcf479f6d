/-
  Arrays of bytes compared. No program is named here.
-/
import Derived.Test.YthjcdikpomlpmaaKit
import Derived.Stop.BytesEq
namespace Go.Proofs.Ythjcdikpomlpmaa
open Go.RowKit

theorem cell_enc (c : BitVec 8) : Extern.Stop.cell (UInt8.ofBitVec c) = encB c := by
  show Value.int .u8 _ = Value.int .u8 _
  unfold ub; simp
theorem map_cell (l : List (BitVec 8)) : (l.map fun c => UInt8.ofBitVec c).map Extern.Stop.cell = l.map encB := by
  rw [List.map_map]; exact List.map_congr_left fun c _ => cell_enc c
theorem ofBitVec_eq (xs ys : List (BitVec 8)) : ((xs.map fun c => UInt8.ofBitVec c) == ys.map fun c => UInt8.ofBitVec c) = decide (xs = ys) := by
  rw [Bool.eq_iff_iff, beq_iff_eq, decide_eq_true_eq]
  exact List.map_inj_right (fun x y e => by simpa using e)
/-- equal lists of bytes, a word that the walk does not open -/
def eqB (xs ys : List (BitVec 8)) : Bool := decide (xs = ys)
theorem eqB_iff {xs ys : List (BitVec 8)} : eqB xs ys = true ↔ xs = ys := by unfold eqB; simp
theorem eqB_self (xs : List (BitVec 8)) : eqB xs xs = true := eqB_iff.2 rfl
theorem eqB_false {xs ys : List (BitVec 8)} (h : xs ≠ ys) : eqB xs ys = false := by unfold eqB; simpa using h
theorem run_equalIn_block {P : Program} (w : World) (d : Nat) {t e : TypeId} {n : Nat} (ht : P.underlying t = some (.array n e)) (he : P.underlying e = some (.int .u8)) (hsz : ∀ w, (sizeOf e).run P w = .ok 1 w)
    (xs ys : List (BitVec 8)) (hx : xs.length = n) (hy : ys.length = n) :
    (Op.equalIn (d + 2) t (.agg (xs.map encB).toArray) (.agg (ys.map encB).toArray)).run P w = .ok (eqB xs ys) w := by
  have := run_equalIn_bytes (P := P) w d t e n ht he hsz (xs.map fun c => UInt8.ofBitVec c) (ys.map fun c => UInt8.ofBitVec c) (by simpa using hx) (by simpa using hy)
  rw [map_cell, map_cell, ofBitVec_eq] at this
  exact this
theorem eq_strE (a b : List (BitVec 8)) : ((strB a).toList == (strB b).toList) = eqB a b := eq_strB a b
theorem ne_strE (a b : List (BitVec 8)) : ((strB a).toList != (strB b).toList) = !eqB a b := by rw [← eq_strE]; rfl
end Go.Proofs.Ythjcdikpomlpmaa
