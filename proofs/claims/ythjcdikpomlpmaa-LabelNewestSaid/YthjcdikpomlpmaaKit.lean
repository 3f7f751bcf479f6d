/-
  Rows of bytes: literals, rows that are written. No program is named here.
-/
import Derived.Test.YthjcdikpomlpmaaStr
namespace Go.Proofs.Ythjcdikpomlpmaa
open Go.RowKit

theorem Ext.size {w w' : World} (h : Ext w w') : w.heap.size ≤ w'.heap.size := h.below.size
theorem Ext.setOwn {w w1 : World} {b o : Nat} {v : Value} (h : Ext w w1) (hb : w.heap.size ≤ b) : Ext w (w1.setCell ⟨b, o, none⟩ v) := Below.setCell h hb _
theorem below_of_ext {w w' : World} (h : Ext w w') : Below w.heap.size w w' := h
theorem cell_alloc_any (w : World) (cs : Array Value) (t : TypeId) (fr : Nat × Nat) (i : Nat) : (w.alloc (.cells cs t fr)).cell? ⟨w.heap.size, i, none⟩ = cs[i]? := by
  have h : (w.alloc (.cells cs t fr)).heap[w.heap.size]? = some (.cells cs t fr) := by
    show (w.heap.push (.cells cs t fr))[w.heap.size]? = _
    simp
  unfold World.cell?
  simp only [h, Option.isSome_none, Bool.false_eq_true, if_false]
theorem SliceAt.lit {α : Type} {enc : α → Value} (w : World) (l : List α) (t : TypeId) (fr : Nat × Nat) (cs : Array Value) (h : cs = (l.map enc).toArray) : SliceAt enc (w.alloc (.cells cs t fr)) (.slice (some ⟨w.heap.size, 0, none⟩) l.length l.length) l := by
  subst h
  refine ⟨_, l.length, rfl, Nat.le_refl _, .inr ⟨_, 0, rfl, by simp, fun i hi => ?_⟩⟩
  rw [Nat.zero_add, cell_alloc_any]
  simp [hi]
theorem wrap8_un (y : BitVec 64) : IntKind.u8.wrap (un y) = ub (y.setWidth 8) := by
  unfold un ub
  simp only [IntKind.wrap, IntKind.bits, IntKind.signed]
  simp [BitVec.toNat_setWidth]
theorem wrap8_nat (n : Nat) : IntKind.u8.wrap (n : Int) = ub (BitVec.ofNat 8 n) := by
  unfold ub
  simp only [IntKind.wrap, IntKind.bits, IntKind.signed]
  simp
theorem or_ub (x y : BitVec 8) : bits .or .u8 (ub x) (ub y) = ub (x ||| y) := by
  show IntKind.u8.wrap ((BitVec.ofInt 8 (ub x) ||| BitVec.ofInt 8 (ub y)).toNat : Int) = _
  rw [ofInt8_ub, ofInt8_ub]; exact wrap8_ub _
theorem or_high (x : BitVec 8) : bits .or .u8 (ub x) 128 = ub (x ||| 128#8) := or_ub x 128#8

/-! ### natural numbers, seven bits a byte -/
def uv (n : Nat) : List (BitVec 8) := if n < 128 then [BitVec.ofNat 8 n] else (BitVec.ofNat 8 n ||| 128#8) :: uv (n / 128)
termination_by n
theorem uv_low {n : Nat} (h : n < 128) : uv n = [BitVec.ofNat 8 n] := by rw [uv, if_pos h]
theorem uv_high {n : Nat} (h : ¬ n < 128) : uv n = (BitVec.ofNat 8 n ||| 128#8) :: uv (n / 128) := by rw [uv, if_neg h]
theorem uv_length (k n : Nat) (hk : 1 ≤ k) (h : n < 128 ^ k) : 1 ≤ (uv n).length ∧ (uv n).length ≤ k := by
  induction k generalizing n with
  | zero => omega
  | succ k ih =>
    by_cases hn : n < 128
    · rw [uv_low hn]; simp
    · rw [uv_high hn, List.length_cons]
      have hk1 : 1 ≤ k := by
        rcases Nat.eq_zero_or_pos k with h0 | h0
        · subst h0; simp at h; omega
        · exact h0
      have := ih (n / 128) hk1 (by rw [Nat.pow_succ] at h; exact Nat.div_lt_of_lt_mul (by rw [Nat.mul_comm]; exact h))
      omega
theorem uv_len (n : Nat) (h : n < 18446744073709551616) : 1 ≤ (uv n).length ∧ (uv n).length ≤ 10 :=
  uv_length 10 n (by decide) (Nat.lt_of_lt_of_le h (by decide))
theorem low_ne_high {m n : Nat} (hm : m < 128) : BitVec.ofNat 8 m ≠ (BitVec.ofNat 8 n ||| 128#8) := by
  intro e
  have := congrArg (fun b : BitVec 8 => b.getLsbD 7) e
  simp only [BitVec.getLsbD_or] at this
  have h1 : (BitVec.ofNat 8 m).getLsbD 7 = false := by
    rw [BitVec.getLsbD_ofNat]; simp; exact Nat.testBit_lt_two_pow (by omega)
  have h2 : (128#8).getLsbD 7 = true := by decide
  rw [h1, h2] at this
  simp at this
theorem high_inj {m n : Nat} (e : (BitVec.ofNat 8 m ||| 128#8) = (BitVec.ofNat 8 n ||| 128#8)) : m % 128 = n % 128 := by
  apply Nat.eq_of_testBit_eq
  intro i
  by_cases hi : i < 7
  · have h := congrArg (fun b : BitVec 8 => b.getLsbD i) e
    have h0 : (128#8).getLsbD i = false := by
      have : i = 0 ∨ i = 1 ∨ i = 2 ∨ i = 3 ∨ i = 4 ∨ i = 5 ∨ i = 6 := by omega
      rcases this with rfl | rfl | rfl | rfl | rfl | rfl | rfl <;> decide
    simp only [BitVec.getLsbD_or, h0, Bool.or_false, BitVec.getLsbD_ofNat] at h
    rw [show (128 : Nat) = 2 ^ 7 by decide, Nat.testBit_mod_two_pow, Nat.testBit_mod_two_pow]
    simpa [hi, show i < 8 by omega] using h
  · rw [show (128 : Nat) = 2 ^ 7 by decide, Nat.testBit_mod_two_pow, Nat.testBit_mod_two_pow]; simp [hi]
/-- no encoding is the beginning of another one -/
theorem uv_prefix {m n : Nat} {x y : List (BitVec 8)} (h : uv m ++ x = uv n ++ y) : m = n ∧ x = y := by
  induction m using Nat.strongRecOn generalizing n with
  | _ m ih =>
    by_cases hm : m < 128 <;> by_cases hn : n < 128
    · rw [uv_low hm, uv_low hn] at h
      injection h with h1 h2
      have := congrArg BitVec.toNat h1
      rw [BitVec.toNat_ofNat, BitVec.toNat_ofNat] at this
      exact ⟨by omega, h2⟩
    · rw [uv_low hm, uv_high hn] at h
      injection h with h1 h2
      exact absurd h1 (low_ne_high hm)
    · rw [uv_high hm, uv_low hn] at h
      injection h with h1 h2
      exact absurd h1.symm (low_ne_high hn)
    · rw [uv_high hm, uv_high hn] at h
      injection h with h1 h2
      obtain ⟨h3, h4⟩ := ih (m / 128) (by omega) h2
      have := high_inj h1
      exact ⟨by omega, h4⟩
theorem prefix_iff {m n : Nat} : ((uv m).take (min (uv m).length (uv n).length) = (uv n).take (min (uv m).length (uv n).length)) ↔ m = n := by
  refine ⟨fun h => ?_, fun h => by rw [h]⟩
  rcases Nat.le_total (uv m).length (uv n).length with hl | hl
  · rw [Nat.min_eq_left hl, List.take_of_length_le (Nat.le_refl _)] at h
    have : uv m ++ (uv n).drop (uv m).length = uv n ++ [] := by
      conv => lhs; lhs; rw [h]
      rw [List.take_append_drop, List.append_nil]
    exact (uv_prefix this).1
  · rw [Nat.min_eq_right hl, List.take_of_length_le (l := uv n) (Nat.le_refl _)] at h
    have : uv n ++ (uv m).drop (uv n).length = uv m ++ [] := by
      conv => lhs; lhs; rw [← h]
      rw [List.take_append_drop, List.append_nil]
    exact (uv_prefix this).1.symm
/-- the sign becomes the lowest bit -/
def zz (n : Int) : Nat := if 0 ≤ n then 2 * n.toNat else 2 * (-(n + 1)).toNat + 1
theorem zz_inj {m n : Int} (h : zz m = zz n) : m = n := by
  unfold zz at h
  split at h <;> split at h <;> omega
theorem zz_lt {n : Int} (h1 : -9223372036854775808 ≤ n) (h2 : n ≤ 9223372036854775807) : zz n < 18446744073709551616 := by
  unfold zz; split <;> omega

/-! ### a law on a list of operations, where one operation is carried out in a drawn region -/
theorem wp_calm {P : Program} {o : Oper} {a : Act} {w : World} {K : Act → World → Prop} {Q Q' : Exit → Act → World → Prop} (hq : ∀ e a w, e ≠ .normal → Q e a w → Q' e a w)
    (hh : o.wp P a w K Q) : o.wp P a w K Q' := by
  unfold Oper.wp at *
  generalize (execOp a.eval o).run P w = r at *
  cases r with
  | ok n w' =>
    cases n <;> simp only [Oper.upon] at hh ⊢ <;>
      first
        | exact hh
        | exact Calls.mono hh (fun e w'' he => by
            cases e <;> first | exact he | exact hq _ _ _ (by simp) he | (obtain ⟨a1, w1, h1⟩ := he; exact ⟨a1, w1, hq _ _ _ (by simp) h1⟩))
        | exact Rows.mono hh (fun _ _ he => he)
  | halt x w' => cases x <;> simp only [Oper.upon] at hh ⊢ <;> first | exact hh | exact hq _ _ _ (by simp) hh
theorem wp_of_list {P : Program} {o : Oper} {a : Act} {w : World} {K : Act → World → Prop} {Q : Exit → Act → World → Prop} (hg : o.guard = none)
    (h : wpList P #[] (Calm (fun _ a w => K a w)) [o] a w) : o.wp P a w K (Calm Q) := by
  simp only [wpList, Region.wanted, hg, if_true] at h
  rcases h with h | ⟨_, a', w', h⟩
  · refine wp_calm (fun e a w hne h => ?_) h
    cases e <;> first | exact absurd rfl hne | exact h
  · exact h.elim
end Go.Proofs.Ythjcdikpomlpmaa
