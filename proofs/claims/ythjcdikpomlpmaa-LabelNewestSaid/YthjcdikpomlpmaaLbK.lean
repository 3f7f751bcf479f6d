/-
  Chapter 30 (label): the plain law of a label's sectors: payload, seal, parts; what is read of them. No program is named here.
-/
import Derived.Test.YthjcdikpomlpmaaLbJ
import Derived.Test.YthjcdikpomlpmaaLkP
namespace Go.Proofs.Ythjcdikpomlpmaa.Lb
set_option linter.unusedVariables false
abbrev Bts := List (BitVec 8)
theorem getD_set {α : Type} {l : List α} {i j : Nat} {x d : α} (h : i < l.length) : (l.set i x).getD j d = if i = j then x else l.getD j d := by
  rw [List.getD_eq_getElem?_getD, List.getD_eq_getElem?_getD]
  by_cases e : i = j
  · subst e
    rw [if_pos rfl, List.getElem?_set_self h]; rfl
  · rw [if_neg e, List.getElem?_set_ne e]

/-! ### a list of Bools as bits -/
def bitsTo (x : List Bool) : Nat → Bts
  | 0 => List.replicate ((x.length + 7) / 8) 0#8
  | i + 1 => if x.getD i false then (bitsTo x i).set (i / 8) ((bitsTo x i).getD (i / 8) 0#8 ||| 1#8 <<< (i % 8)) else bitsTo x i
def bitsL (x : List Bool) : Bts := bitsTo x x.length
theorem bitsTo_len (x : List Bool) : ∀ i, (bitsTo x i).length = (x.length + 7) / 8
  | 0 => by rw [bitsTo, List.length_replicate]
  | i + 1 => by rw [bitsTo]; split <;> simp [bitsTo_len x i]
theorem one_bit (m j : Nat) (hm : m < 8) (hj : j < 8) : (1#8 <<< m).getLsbD j = decide (j = m) := by
  match m, hm, j, hj with
  | 0, _, j, hj | 1, _, j, hj | 2, _, j, hj | 3, _, j, hj | 4, _, j, hj | 5, _, j, hj | 6, _, j, hj | 7, _, j, hj =>
    match j, hj with
    | 0, _ | 1, _ | 2, _ | 3, _ | 4, _ | 5, _ | 6, _ | 7, _ => decide
theorem bitsTo_bit (x : List Bool) : ∀ i, i ≤ x.length → ∀ k j, j < 8 → ((bitsTo x i).getD k 0#8).getLsbD j = (decide (8 * k + j < i) && x.getD (8 * k + j) false)
  | 0, _, k, j, hj => by
    rw [bitsTo, List.getD_eq_getElem?_getD, List.getElem?_replicate]
    split <;> simp
  | i + 1, hi, k, j, hj => by
    have ih := bitsTo_bit x i (by omega)
    rw [bitsTo]
    by_cases hx : x.getD i false = true
    · rw [if_pos hx, getD_set (by rw [bitsTo_len]; omega)]
      by_cases hk : i / 8 = k
      · subst hk
        rw [if_pos rfl, BitVec.getLsbD_or, ih _ j hj, one_bit _ _ (by omega) hj]
        by_cases hji : j = i % 8
        · have e : 8 * (i / 8) + j = i := by omega
          rw [e, hx, decide_eq_true hji, decide_eq_true (show i < i + 1 by omega)]; simp
        · rw [decide_eq_false hji, Bool.or_false]
          congr 1
          exact decide_eq_decide.2 (by omega)
      · rw [if_neg hk, ih k j hj]
        congr 1
        exact decide_eq_decide.2 (by omega)
    · rw [if_neg hx, ih k j hj]
      by_cases e : 8 * k + j = i
      · have : x.getD i false = false := by simpa using hx
        rw [e, this]; simp
      · congr 1
        exact decide_eq_decide.2 (by omega)
/-- the bit that is set next is not set yet -/
theorem bits_clear (x : List Bool) {i : Nat} (hi : i < x.length) : (bitsTo x i).getD (i / 8) 0#8 &&& 1#8 <<< (i % 8) = 0#8 := by
  apply BitVec.eq_of_getLsbD_eq
  intro j hj
  rw [BitVec.getLsbD_and, bitsTo_bit x i (by omega) _ j hj, one_bit _ _ (by omega) hj]
  by_cases h : j = i % 8
  · rw [decide_eq_false (show ¬ 8 * (i / 8) + j < i by omega)]; simp
  · rw [decide_eq_false h]; simp
def deadP (D : Int) (b : Bts) : List Bool := (List.range (min D.toNat (8 * b.length))).map fun i => (b.getD (i / 8) 0#8).getLsbD (i % 8)
theorem deadP_bits (x : List Bool) {D : Int} (h : D = x.length) : deadP D (bitsL x) = x := by
  subst h
  unfold deadP bitsL
  rw [bitsTo_len]
  apply List.ext_getElem
  · rw [List.length_map, List.length_range]; omega
  · intro i h1 h2
    rw [List.getElem_map, List.getElem_range, bitsTo_bit x _ (Nat.le_refl _) _ _ (Nat.mod_lt _ (by decide)), show 8 * (i / 8) + i % 8 = i by omega, decide_eq_true h2, Bool.true_and]
    exact Go.Proofs.Ythjcdikpomlpmaa.getD_in h2

/-! ### the payload -/
def numsL (ns : List Nat) : Bts := ns.flatMap uv
def cfgBytes (c : Cfg) : Bts := (cfgL c).flatMap fun n => uv n.toNat
def payL (l : Lab) (x : List Bool) : Bts :=
  numsL [l.array.toNat, l.disk.toNat, l.gen.toNat, l.prev.toNat] ++ cfgBytes l.c ++ uv (bitsL x).length ++ bitsL x ++ numsL [l.blob.toNat, l.sum.toNat, l.root.toNat]
def be8 (s : BitVec 64) (k : Nat) : Bts := (List.range k).map fun i => (s >>> (56 - 8 * i)).setWidth 8
theorem be8_next (s : BitVec 64) (k : Nat) : be8 s (k + 1) = be8 s k ++ [(s >>> (56 - 8 * k)).setWidth 8] := by unfold be8; rw [List.range_succ, List.map_append]; rfl
theorem be8_len (s : BitVec 64) (k : Nat) : (be8 s k).length = k := by unfold be8; simp
def sealL (b : Bts) : Bts := b ++ be8 (Crc.sum b) 8
theorem sealL_len (b : Bts) : (sealL b).length = b.length + 8 := by unfold sealL; rw [List.length_append, be8_len]
def bodyL (g d i n : Nat) (c : Bts) : Bts := [76#8] ++ numsL [g, d, i, n] ++ uv c.length ++ c
def sectorL (g d i n : Nat) (c : Bts) : Bts := sealL (bodyL g d i n c)
def partsN (p : Bts) : Nat := (p.length + 27) / 28
def partAt (p : Bts) (i : Nat) : Bts := (p.drop (28 * i)).take 28
def cutL (g d : Nat) (p : Bts) : List Bts := (List.range (partsN p)).map fun i => sectorL g d i (partsN p) (partAt p i)
def encL (l : Lab) (x : List Bool) : List Bts := cutL l.gen.toNat l.disk.toNat (payL l x)
theorem cutL_len (g d : Nat) (p : Bts) : (cutL g d p).length = partsN p := by unfold cutL; simp
theorem cutL_get {g d : Nat} {p : Bts} {i : Nat} (h : i < partsN p) : (cutL g d p)[i]? = some (sectorL g d i (partsN p) (partAt p i)) := by
  unfold cutL
  rw [List.getElem?_map, List.getElem?_range h]; rfl
theorem partAt_len (p : Bts) (i : Nat) : (partAt p i).length ≤ 28 := by unfold partAt; rw [List.length_take]; omega
theorem parts_take (p : Bts) : ∀ k, (List.range k).flatMap (partAt p) = p.take (28 * k)
  | 0 => by simp
  | k + 1 => by
    rw [List.range_succ, List.flatMap_append, parts_take p k, show 28 * (k + 1) = 28 * k + 28 by omega, List.take_add]
    simp [partAt]
theorem parts_join (p : Bts) : (List.range (partsN p)).flatMap (partAt p) = p := by
  rw [parts_take, List.take_of_length_le]
  unfold partsN; omega

/-! ### reading -/
abbrev St := Bool × Bts
def stU (s : St) : BitVec 64 × St := match rd s.1 s.2 with
  | some (x, r) => (x, (false, r))
  | none => (0#64, (true, []))
def stC (most : Int) (s : St) : Int × St := match rdC most s.1 s.2 with
  | some (n, r) => (n, (false, r))
  | none => (0, (true, []))
def stB (s : St) : Bts × St := match rdB s.1 s.2 with
  | some (b, r) => (b, (false, r))
  | none => ([], (true, []))
def stN (f : St → Int × St) : Nat → St → List Int × St
  | 0, s => ([], s)
  | k + 1, s => ((stN f k s).1 ++ [(f (stN f k s).2).1], (f (stN f k s).2).2)
theorem stN_len (f : St → Int × St) (s : St) : ∀ k, (stN f k s).1.length = k
  | 0 => rfl
  | k + 1 => by rw [stN, List.length_append, stN_len f s k]; rfl
def int64 (x : BitVec 64) : Int := IntKind.i64.wrap (un x)
def stI (s : St) : Int × St := (int64 (stU s).1, (stU s).2)
def cfgOf (n : List Int) : Cfg := ⟨n.getD 0 0, n.getD 1 0, n.getD 2 0, n.getD 3 0, n.getD 4 0, n.getD 5 0, n.getD 6 0, n.getD 7 0, n.getD 8 0, n.getD 9 0, n.getD 10 0⟩
theorem stU_un (x : BitVec 64) (r : Bts) : stU (false, uv x.toNat ++ r) = (x, (false, r)) := by
  unfold stU
  rw [rd_uv x.toNat r (by have := x.isLt; omega)]
  simp
theorem stU_uv {n : Nat} (h : n < 18446744073709551616) (r : Bts) : stU (false, uv n ++ r) = (BitVec.ofNat 64 n, (false, r)) := by
  unfold stU
  rw [rd_uv n r h]
theorem stC_uv {n most : Int} (h0 : 0 ≤ n) (h1 : n ≤ most) (h2 : most < 9223372036854775808) (r : Bts) : stC most (false, uv n.toNat ++ r) = (n, (false, r)) := by
  unfold stC rdC
  rw [rd_uv n.toNat r (by omega)]
  have e : un (BitVec.ofNat 64 n.toNat) = n := by
    unfold un
    rw [BitVec.toNat_ofNat, Nat.mod_eq_of_lt (by omega)]; omega
  simp only [e]
  rw [if_pos ⟨by omega, h1⟩]
theorem int64_of {n : Int} (h0 : 0 ≤ n) (h2 : n < 9223372036854775808) : int64 (BitVec.ofNat 64 n.toNat) = n := by
  unfold int64 un
  rw [BitVec.toNat_ofNat, Nat.mod_eq_of_lt (by omega), i64_wrap]
  omega
theorem stI_uv {n : Int} (h0 : 0 ≤ n) (h2 : n < 9223372036854775808) (r : Bts) : stI (false, uv n.toNat ++ r) = (n, (false, r)) := by
  unfold stI
  rw [stU_uv (by omega), int64_of h0 h2]
theorem stB_uv (b r : Bts) (h : b.length < 18446744073709551616) : stB (false, uv b.length ++ (b ++ r)) = (b, (false, r)) := by
  unfold stB
  rw [rdB_uv b r h]
theorem stN_uv {f : St → Int × St} (ns : List Int) (r : Bts) (hf : ∀ n, n ∈ ns → ∀ r, f (false, uv n.toNat ++ r) = (n, (false, r))) : ∀ k, k ≤ ns.length →
    stN f k (false, (ns.flatMap fun n => uv n.toNat) ++ r) = (ns.take k, (false, ((ns.drop k).flatMap fun n => uv n.toNat) ++ r))
  | 0, _ => by simp [stN]
  | k + 1, hk => by
    have ih := stN_uv ns r hf k (by omega)
    have hlt : k < ns.length := by omega
    rw [stN, ih, List.drop_eq_getElem_cons hlt, List.flatMap_cons, List.append_assoc]
    simp only
    rw [hf _ (List.getElem_mem hlt), List.take_succ_eq_append_getElem hlt]
def parseT (b : Bts) : (Lab × List Bool) × Bool :=
  let a := stU (false, b)
  let d := stC 60 a.2
  let g := stU d.2
  let p := stU g.2
  let c := stN (stC 2147483647) 11 p.2
  let t := stB c.2
  let z := stC 1048576 t.2
  let s := stU z.2
  let r := stU s.2
  ((⟨a.1, d.1, g.1, p.1, cfgOf c.1, z.1, s.1, r.1⟩, deadP (cfgOf c.1).d t.1), decide (fin r.2.1 r.2.2 = 0) && validL ⟨a.1, d.1, g.1, p.1, cfgOf c.1, z.1, s.1, r.1⟩ (deadP (cfgOf c.1).d t.1))
def readT (b : Bts) : (Lab × List Bool) × Bool :=
  let a := stU (false, b)
  let d := stI a.2
  let g := stU d.2
  let p := stU g.2
  let c := stN stI 11 p.2
  let t := stB c.2
  let z := stI t.2
  let s := stU z.2
  let r := stU s.2
  ((⟨a.1, d.1, g.1, p.1, cfgOf c.1, z.1, s.1, r.1⟩, deadP (cfgOf c.1).d t.1), decide (fin r.2.1 r.2.2 = 0) && validL ⟨a.1, d.1, g.1, p.1, cfgOf c.1, z.1, s.1, r.1⟩ (deadP (cfgOf c.1).d t.1))
theorem parse_valid {b : Bts} (h : (parseT b).2 = true) : validL (parseT b).1.1 (parseT b).1.2 = true := by
  unfold parseT at h ⊢
  simp only [Bool.and_eq_true] at h
  exact h.2
theorem read_valid {b : Bts} (h : (readT b).2 = true) : validL (readT b).1.1 (readT b).1.2 = true := by
  unfold readT at h ⊢
  simp only [Bool.and_eq_true] at h
  exact h.2
/-- what is known of a valid label -/
structure Fine (l : Lab) (x : List Bool) : Prop where
  disk : 0 ≤ l.disk ∧ l.disk < 60
  gen : 1 ≤ l.gen.toNat ∧ l.gen.toNat ≤ 4294967295
  prev : l.prev.toNat < l.gen.toNat
  cfg : ∀ n, n ∈ cfgL l.c → 0 ≤ n ∧ n ≤ 65535
  d : l.c.d = x.length
  len : x.length ≤ 60
  blob : 0 ≤ l.blob ∧ l.blob ≤ 1048576
theorem fine_of {l : Lab} {x : List Bool} (h : validL l x = true) : Fine l x := by
  unfold validL cfgB cfgHead labHead validB at h
  simp only [Bool.and_eq_true, decide_eq_true_eq] at h
  obtain ⟨⟨⟨⟨h1, h4⟩, h5⟩, h2⟩, h3⟩ := h
  have e1 : un l.gen = (l.gen.toNat : Int) := rfl
  have e2 : un l.prev = (l.prev.toNat : Int) := rfl
  rw [e1, e2] at h2
  refine ⟨⟨h2.1, by omega⟩, by omega, by omega, ?_, by omega, by omega, h3.2.2.2⟩
  intro n hn
  simp only [cfgL, List.mem_cons, List.not_mem_nil, or_false] at hn
  omega
theorem pay_right (l : Lab) (x : List Bool) : payL l x = uv l.array.toNat ++ (uv l.disk.toNat ++ (uv l.gen.toNat ++ (uv l.prev.toNat ++ (((cfgL l.c).flatMap fun n => uv n.toNat) ++ (uv (bitsL x).length ++ (bitsL x ++ (uv l.blob.toNat ++ (uv l.sum.toNat ++ (uv l.root.toNat ++ []))))))))) := by
  simp [payL, numsL, cfgBytes]
theorem cfgOf_L (c : Cfg) : cfgOf (cfgL c) = c := rfl
theorem fin_nil : fin false [] = 0 := by unfold fin; simp
theorem parse_pay {l : Lab} {x : List Bool} (h : validL l x = true) : parseT (payL l x) = ((l, x), true) := by
  have F := fine_of h
  have hb : (bitsL x).length < 18446744073709551616 := by unfold bitsL; rw [bitsTo_len]; have := F.len; omega
  have hN := stN_uv (f := stC 2147483647) (cfgL l.c) (uv (bitsL x).length ++ (bitsL x ++ (uv l.blob.toNat ++ (uv l.sum.toNat ++ (uv l.root.toNat ++ []))))) (fun n hn r => stC_uv (F.cfg n hn).1 (by have := (F.cfg n hn).2; omega) (by decide) r) 11 (Nat.le_refl _)
  have hN2 : stN (stC 2147483647) 11 (false, ((cfgL l.c).flatMap fun n => uv n.toNat) ++ (uv (bitsL x).length ++ (bitsL x ++ (uv l.blob.toNat ++ (uv l.sum.toNat ++ (uv l.root.toNat ++ [])))))) = (cfgL l.c, (false, uv (bitsL x).length ++ (bitsL x ++ (uv l.blob.toNat ++ (uv l.sum.toNat ++ (uv l.root.toNat ++ [])))))) := hN
  unfold parseT
  rw [pay_right]
  simp only [stU_un, stC_uv F.disk.1 (show l.disk ≤ 60 by have := F.disk.2; omega) (by decide), hN2, stB_uv _ _ hb, stC_uv F.blob.1 F.blob.2 (by decide), cfgOf_L, deadP_bits x F.d, fin_nil, h]
  rfl
theorem read_pay {l : Lab} {x : List Bool} (h : validL l x = true) : readT (payL l x) = ((l, x), true) := by
  have F := fine_of h
  have hb : (bitsL x).length < 18446744073709551616 := by unfold bitsL; rw [bitsTo_len]; have := F.len; omega
  have hN := stN_uv (f := stI) (cfgL l.c) (uv (bitsL x).length ++ (bitsL x ++ (uv l.blob.toNat ++ (uv l.sum.toNat ++ (uv l.root.toNat ++ []))))) (fun n hn r => stI_uv (F.cfg n hn).1 (by have := (F.cfg n hn).2; omega) r) 11 (Nat.le_refl _)
  have hN2 : stN stI 11 (false, ((cfgL l.c).flatMap fun n => uv n.toNat) ++ (uv (bitsL x).length ++ (bitsL x ++ (uv l.blob.toNat ++ (uv l.sum.toNat ++ (uv l.root.toNat ++ [])))))) = (cfgL l.c, (false, uv (bitsL x).length ++ (bitsL x ++ (uv l.blob.toNat ++ (uv l.sum.toNat ++ (uv l.root.toNat ++ [])))))) := hN
  unfold readT
  rw [pay_right]
  simp only [stU_un, stI_uv F.disk.1 (show l.disk < 9223372036854775808 by have := F.disk.2; omega), hN2, stB_uv _ _ hb, stI_uv F.blob.1 (show l.blob < 9223372036854775808 by have := F.blob.2; omega), cfgOf_L, deadP_bits x F.d, fin_nil, h]
  rfl

/-! ### lengths -/
theorem cfgB_len (c : Cfg) (h : ∀ n, n ∈ cfgL c → 0 ≤ n ∧ n ≤ 65535) : (cfgBytes c).length ≤ 33 := by
  have key : ∀ l : List Int, (∀ n, n ∈ l → 0 ≤ n ∧ n ≤ 65535) → (l.flatMap fun n => uv n.toNat).length ≤ 3 * l.length := by
    intro l
    induction l with
    | nil => intro _; simp
    | cons a t ih =>
      intro h
      rw [List.flatMap_cons, List.length_append, List.length_cons]
      have := (uv_length 3 a.toNat (by decide) (by have := (h a (by simp)).2; omega)).2
      have := ih fun n hn => h n (by simp [hn])
      omega
  exact key (cfgL c) h
theorem pay_len {l : Lab} {x : List Bool} (F : Fine l x) : 1 ≤ (payL l x).length ∧ (payL l x).length ≤ 86 := by
  rw [pay_right]
  have h1 := uv_len l.array.toNat (by have := l.array.isLt; omega)
  have h2 := uv_length 1 l.disk.toNat (by decide) (by have := F.disk.2; omega)
  have h3 := uv_length 5 l.gen.toNat (by decide) (by have := F.gen.2; omega)
  have h4 := uv_length 5 l.prev.toNat (by decide) (by have := F.prev; have := F.gen.2; omega)
  have h5 := cfgB_len l.c F.cfg
  unfold cfgBytes at h5
  have h6 : (bitsL x).length ≤ 8 := by unfold bitsL; rw [bitsTo_len]; have := F.len; omega
  have h7 := uv_length 1 (bitsL x).length (by decide) (by omega)
  have h8 := uv_length 3 l.blob.toNat (by decide) (by have := F.blob.2; omega)
  have h9 := uv_len l.sum.toNat (by have := l.sum.isLt; omega)
  have h10 := uv_len l.root.toNat (by have := l.root.isLt; omega)
  simp only [List.length_append, List.length_nil]
  omega
theorem enc_len {l : Lab} {x : List Bool} (F : Fine l x) : 1 ≤ (encL l x).length ∧ (encL l x).length ≤ 4 := by
  unfold encL
  rw [cutL_len]
  have := pay_len F
  unfold partsN
  omega
theorem numsL_4 (a b c d : Nat) : numsL [a, b, c, d] = uv a ++ (uv b ++ (uv c ++ uv d)) := by simp [numsL]
theorem body_right (g d i n : Nat) (c : Bts) : bodyL g d i n c = 76#8 :: (uv g ++ (uv d ++ (uv i ++ (uv n ++ (uv c.length ++ (c ++ [])))))) := by
  unfold bodyL
  rw [numsL_4]
  simp
theorem sector_len {l : Lab} {x : List Bool} (F : Fine l x) {i : Nat} (hi : i < partsN (payL l x)) : (sectorL l.gen.toNat l.disk.toNat i (partsN (payL l x)) (partAt (payL l x) i)).length ≤ 64 := by
  unfold sectorL
  rw [sealL_len, body_right]
  have hp := pay_len F
  have hn : partsN (payL l x) ≤ 4 := by unfold partsN; omega
  have h1 := uv_length 5 l.gen.toNat (by decide) (by have := F.gen.2; omega)
  have h2 := uv_length 1 l.disk.toNat (by decide) (by have := F.disk.2; omega)
  have h3 := uv_length 1 i (by decide) (by omega)
  have h4 := uv_length 1 (partsN (payL l x)) (by decide) (by omega)
  have h5 := partAt_len (payL l x) i
  have h6 := uv_length 1 (partAt (payL l x) i).length (by decide) (by omega)
  simp only [List.length_cons, List.length_append, List.length_nil]
  omega
end Go.Proofs.Ythjcdikpomlpmaa.Lb
