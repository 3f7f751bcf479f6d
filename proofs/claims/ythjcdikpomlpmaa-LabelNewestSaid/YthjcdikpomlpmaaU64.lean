/-
  Numbers of kind uint64 and uint8 as bit vectors, in the walk's spelling. No program is named here.
-/
import Derived.Test.YthjcdikpomlpmaaMem
import Derived.Test.YthjcdikpomlpmaaCrc
namespace Go.Proofs.Ythjcdikpomlpmaa
open Go.RowKit

/-- the number in a slot -/
def un (x : BitVec 64) : Int := (x.toNat : Int)
def ub (x : BitVec 8) : Int := (x.toNat : Int)
theorem un_bound (x : BitVec 64) : 0 ≤ un x ∧ un x ≤ 18446744073709551615 := by
  unfold un; have := x.isLt; omega
theorem ub_bound (x : BitVec 8) : 0 ≤ ub x ∧ ub x ≤ 255 := by
  unfold ub; have := x.isLt; omega
theorem un_inj {x y : BitVec 64} (h : un x = un y) : x = y := by
  unfold un at h; exact BitVec.eq_of_toNat_eq (by omega)
theorem ub_inj {x y : BitVec 8} (h : ub x = ub y) : x = y := by
  unfold ub at h; exact BitVec.eq_of_toNat_eq (by omega)
theorem un_ofInt (n : Int) (h : 0 ≤ n ∧ n ≤ 18446744073709551615) : un (BitVec.ofInt 64 n) = n := by
  unfold un; rw [BitVec.toNat_ofInt]; simp; omega
theorem ub_ofInt (n : Int) (h : 0 ≤ n ∧ n ≤ 255) : ub (BitVec.ofInt 8 n) = n := by
  unfold ub; rw [BitVec.toNat_ofInt]; simp; omega
theorem un_ex (n : Int) (h : 0 ≤ n ∧ n ≤ 18446744073709551615) : ∃ x, n = un x := ⟨_, (un_ofInt n h).symm⟩
theorem ub_ex (n : Int) (h : 0 ≤ n ∧ n ≤ 255) : ∃ x, n = ub x := ⟨_, (ub_ofInt n h).symm⟩

theorem ofInt_un (x : BitVec 64) : BitVec.ofInt 64 (un x) = x := by unfold un; simp
theorem wrap_un (x : BitVec 64) : IntKind.u64.wrap (un x) = un x := by
  have := un_bound x
  simp only [IntKind.wrap, IntKind.bits, IntKind.signed]; simp; omega
theorem bits_def (op : BinOp) (x y : BitVec 64) : True := trivial
theorem xor_un (x y : BitVec 64) : bits .xor .u64 (un x) (un y) = un (x ^^^ y) := by
  show IntKind.u64.wrap ((BitVec.ofInt 64 (un x) ^^^ BitVec.ofInt 64 (un y)).toNat : Int) = _
  rw [ofInt_un, ofInt_un]; exact wrap_un _
theorem and_un (x y : BitVec 64) : bits .and .u64 (un x) (un y) = un (x &&& y) := by
  show IntKind.u64.wrap ((BitVec.ofInt 64 (un x) &&& BitVec.ofInt 64 (un y)).toNat : Int) = _
  rw [ofInt_un, ofInt_un]; exact wrap_un _
theorem or_un (x y : BitVec 64) : bits .or .u64 (un x) (un y) = un (x ||| y) := by
  show IntKind.u64.wrap ((BitVec.ofInt 64 (un x) ||| BitVec.ofInt 64 (un y)).toNat : Int) = _
  rw [ofInt_un, ofInt_un]; exact wrap_un _
theorem not_un (x : BitVec 64) : bits .xor .u64 IntKind.u64.max (un x) = un (~~~x) := by
  have h : IntKind.u64.max = un (~~~0#64) := by decide
  rw [h, xor_un, BitVec.xor_comm, ← Crc.not_eq_xor]
theorem unsigned64 : IntKind.u64.signed = false := rfl
theorem unsigned8 : IntKind.u8.signed = false := rfl
theorem and_one_un (x : BitVec 64) : bits .and .u64 (un x) 1 = un (x &&& 1#64) := and_un x 1#64
theorem xor_poly_un (x : BitVec 64) : bits .xor .u64 (un x) 14514072000185962306 = un (x ^^^ Crc.poly) := by
  rw [← xor_un]; rfl
theorem shr_un (x : BitVec 64) (k : Nat) : un x / (2 : Int) ^ k = un (x >>> k) := by
  unfold un; rw [BitVec.toNat_ushiftRight, Nat.shiftRight_eq_div_pow]; simp
theorem half_un (x : BitVec 64) : un x / (2 : Int) = un (x >>> 1) := shr_un x 1
theorem eq_one_un (x : BitVec 64) : (un x == 1) = decide (x = 1#64) := by
  rw [Bool.eq_iff_iff]; simp only [beq_iff_eq, decide_eq_true_eq]
  exact ⟨fun h => un_inj h, fun h => by rw [h]; rfl⟩
theorem eq_zero_un (x : BitVec 64) : (un x == 0) = decide (x = 0#64) := by
  rw [Bool.eq_iff_iff]; simp only [beq_iff_eq, decide_eq_true_eq]
  exact ⟨fun h => un_inj h, fun h => by rw [h]; rfl⟩
theorem eq_un (x y : BitVec 64) : (un x == un y) = decide (x = y) := by
  rw [Bool.eq_iff_iff]; simp only [beq_iff_eq, decide_eq_true_eq]
  exact ⟨fun h => un_inj h, fun h => by rw [h]⟩
theorem reg_ub (c : BitVec 8) : un (Crc.reg c) = ub c := by
  unfold un ub Crc.reg; rw [BitVec.toNat_setWidth, Nat.mod_eq_of_lt (by have := c.isLt; omega)]
theorem ofInt_ub (x : BitVec 8) : BitVec.ofInt 64 (ub x) = x.setWidth 64 := by
  apply BitVec.eq_of_toNat_eq
  unfold ub
  have := x.isLt
  rw [BitVec.ofInt_natCast, BitVec.toNat_ofNat, BitVec.toNat_setWidth]
theorem wrap8_ub (x : BitVec 8) : IntKind.u8.wrap (ub x) = ub x := by
  have := ub_bound x
  simp only [IntKind.wrap, IntKind.bits, IntKind.signed]; simp; omega
theorem ofInt8_ub (x : BitVec 8) : BitVec.ofInt 8 (ub x) = x := by unfold ub; simp
theorem xor_ub (x y : BitVec 8) : bits .xor .u8 (ub x) (ub y) = ub (x ^^^ y) := by
  show IntKind.u8.wrap ((BitVec.ofInt 8 (ub x) ^^^ BitVec.ofInt 8 (ub y)).toNat : Int) = _
  rw [ofInt8_ub, ofInt8_ub]; exact wrap8_ub _
theorem wrap_ub (c : BitVec 8) : IntKind.u64.wrap (ub c) = un (Crc.reg c) := by rw [← reg_ub]; exact wrap_un _
abbrev encU (x : BitVec 64) : Value := .int .u64 (un x)
abbrev encB (c : BitVec 8) : Value := .int .u8 (ub c)
end Go.Proofs.Ythjcdikpomlpmaa
