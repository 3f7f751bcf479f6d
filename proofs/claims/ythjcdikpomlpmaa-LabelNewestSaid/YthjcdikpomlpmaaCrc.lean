/-
  The plain law of CRC-64: the register as a linear map over the field of two elements. No program is named here.
-/
namespace Go.Proofs.Ythjcdikpomlpmaa.Crc

theorem xlc {n : Nat} (a b c : BitVec n) : a ^^^ (b ^^^ c) = b ^^^ (a ^^^ c) := by
  rw [← BitVec.xor_assoc, BitVec.xor_comm a, BitVec.xor_assoc]

abbrev R := BitVec 64
def poly : R := 0xc96c5795d7870f42#64

def step (x : R) : R := if x &&& 1#64 = 1#64 then (x >>> 1) ^^^ poly else x >>> 1

def stepN : Nat → R → R
  | 0, x => x
  | n + 1, x => stepN n (step x)

theorem stepN_succ' (n : Nat) (x : R) : stepN (n + 1) x = step (stepN n x) := by
  induction n generalizing x with
  | zero => rfl
  | succ n ih => show stepN (n + 1) (step x) = _; rw [ih]; rfl

theorem stepN_add (m n : Nat) (x : R) : stepN (m + n) x = stepN n (stepN m x) := by
  induction m generalizing x with
  | zero => simp [stepN]
  | succ m ih => rw [Nat.succ_add]; exact ih _

theorem and_one (x : R) : x &&& 1#64 = if x.getLsbD 0 then 1#64 else 0#64 := by
  ext i hi
  rw [BitVec.getElem_and]
  rcases Nat.eq_zero_or_pos i with rfl | h
  · cases h : x.getLsbD 0 <;> simp_all [BitVec.getLsbD_eq_getElem]
  · have : (1#64)[i] = false := by
      rw [BitVec.getElem_one]; simp; omega
    rw [this]; split <;> simp [this]

theorem step_eq (x : R) : step x = (x >>> 1) ^^^ (if x.getLsbD 0 then poly else 0#64) := by
  unfold step; rw [and_one]
  cases x.getLsbD 0 <;> simp

theorem step_xor (x y : R) : step (x ^^^ y) = step x ^^^ step y := by
  rw [step_eq, step_eq, step_eq, BitVec.ushiftRight_xor_distrib]
  rw [BitVec.getLsbD_xor]
  cases x.getLsbD 0 <;> cases y.getLsbD 0 <;> simp
  · rw [BitVec.xor_assoc]
  · rw [BitVec.xor_assoc, BitVec.xor_assoc, BitVec.xor_comm poly]
  · generalize x >>> 1 = a; generalize y >>> 1 = b
    have : a ^^^ poly ^^^ (b ^^^ poly) = a ^^^ b ^^^ (poly ^^^ poly) := by ac_rfl
    rw [this]; simp

theorem step_zero : step 0#64 = 0#64 := by decide

theorem stepN_xor (n : Nat) (x y : R) : stepN n (x ^^^ y) = stepN n x ^^^ stepN n y := by
  induction n generalizing x y with
  | zero => rfl
  | succ n ih => show stepN n (step (x ^^^ y)) = _; rw [step_xor, ih]; rfl

theorem stepN_zero (n : Nat) : stepN n 0#64 = 0#64 := by
  induction n with
  | zero => rfl
  | succ n ih => show stepN n (step 0#64) = _; rw [step_zero, ih]

theorem step_eq_zero {x : R} (h : step x = 0#64) : x = 0#64 := by
  have hb : x.getLsbD 0 = false := by
    have := congrArg (fun r : R => r.getLsbD 63) h
    rw [step_eq] at this
    cases hx : x.getLsbD 0
    · rfl
    · rw [hx] at this
      simp [poly] at this
  rw [step_eq, hb] at h
  simp at h
  ext i hi
  rcases Nat.eq_zero_or_pos i with rfl | hp
  · simpa [BitVec.getLsbD_eq_getElem hi] using hb
  · have := congrArg (fun r : R => r.getLsbD (i - 1)) h
    simp [BitVec.getLsbD_ushiftRight] at this
    rw [show 1 + (i - 1) = i by omega] at this
    simpa [BitVec.getLsbD_eq_getElem hi] using this

theorem stepN_eq_zero {n : Nat} {x : R} (h : stepN n x = 0#64) : x = 0#64 := by
  induction n generalizing x with
  | zero => exact h
  | succ n ih => exact step_eq_zero (ih h)

theorem stepN_inj {n : Nat} {x y : R} (h : stepN n x = stepN n y) : x = y := by
  have : stepN n (x ^^^ y) = 0#64 := by rw [stepN_xor, h]; simp
  have := stepN_eq_zero this
  exact BitVec.xor_eq_zero_iff.1 this

/-- a byte as a register -/
def reg (c : BitVec 8) : R := c.setWidth 64

theorem reg_xor (a b : BitVec 8) : reg (a ^^^ b) = reg a ^^^ reg b := by
  unfold reg; ext i hi; simp only [BitVec.getElem_setWidth, BitVec.getElem_xor, BitVec.getLsbD_xor]

def foldB : R → List (BitVec 8) → R
  | x, [] => x
  | x, c :: r => foldB (stepN 8 (x ^^^ reg c)) r

theorem foldB_append (x : R) (a b : List (BitVec 8)) : foldB x (a ++ b) = foldB (foldB x a) b := by
  induction a generalizing x with
  | nil => rfl
  | cons c a ih => exact ih _

def update (s : R) (b : List (BitVec 8)) : R := ~~~ (foldB (~~~ s) b)
def sum (b : List (BitVec 8)) : R := update 0#64 b

theorem update_append (s : R) (a b : List (BitVec 8)) : update s (a ++ b) = update (update s a) b := by
  unfold update; rw [foldB_append, BitVec.not_not]

theorem update_sum (a b : List (BitVec 8)) : update (sum a) b = sum (a ++ b) := (update_append _ _ _).symm

theorem foldB_xor (x y : R) (b : List (BitVec 8)) : foldB (x ^^^ y) b = foldB x b ^^^ stepN (8 * b.length) y := by
  induction b generalizing x y with
  | nil => rfl
  | cons c b ih =>
    show foldB (stepN 8 (x ^^^ y ^^^ reg c)) b = _
    rw [show x ^^^ y ^^^ reg c = (x ^^^ reg c) ^^^ y by rw [BitVec.xor_assoc, BitVec.xor_comm y, BitVec.xor_assoc], stepN_xor, ih]
    show _ = foldB (stepN 8 (x ^^^ reg c)) b ^^^ _
    rw [List.length_cons, show 8 * (b.length + 1) = 8 + 8 * b.length by omega, stepN_add]

theorem not_eq_xor (x : R) : ~~~ x = x ^^^ (~~~ 0#64) := by
  ext i hi
  rw [BitVec.getElem_xor, BitVec.getElem_not, BitVec.getElem_not]; simp

def combine (a b : R) (n : Nat) : R := stepN (8 * n) a ^^^ b

theorem combine_sum (a b : List (BitVec 8)) : combine (sum a) (sum b) b.length = sum (a ++ b) := by
  rw [← update_sum]
  unfold combine sum update
  generalize ~~~ foldB (~~~ 0#64) a = s
  rw [show ~~~ s = ~~~ 0#64 ^^^ s by rw [not_eq_xor s, BitVec.xor_comm], foldB_xor]
  rw [not_eq_xor (foldB _ b), not_eq_xor (_ ^^^ _)]
  simp only [BitVec.xor_assoc, BitVec.xor_comm]

theorem combine_far (a : R) (m n : Nat) : combine (combine a 0#64 m) 0#64 n = combine a 0#64 (m + n) := by
  unfold combine; simp only [BitVec.xor_zero]; rw [← stepN_add]; congr 1; omega

/-- xor of three lists, element by element -/
def xor3 : List (BitVec 8) → List (BitVec 8) → List (BitVec 8) → List (BitVec 8)
  | a :: as, b :: bs, c :: cs => (a ^^^ b ^^^ c) :: xor3 as bs cs
  | _, _, _ => []

theorem foldB_xor3 (as bs cs : List (BitVec 8)) (x y z : R) (h1 : as.length = bs.length) (h2 : as.length = cs.length) :
    foldB (x ^^^ y ^^^ z) (xor3 as bs cs) = foldB x as ^^^ foldB y bs ^^^ foldB z cs := by
  induction as generalizing bs cs x y z with
  | nil => cases bs <;> cases cs <;> simp_all [xor3, foldB]
  | cons a as ih =>
    match bs, cs, h1, h2 with
    | b :: bs, c :: cs, h1, h2 =>
      simp only [xor3, foldB]
      rw [← ih bs cs _ _ _ (by simpa using h1) (by simpa using h2), ← stepN_xor, ← stepN_xor]
      congr 2
      rw [reg_xor, reg_xor]
      simp only [BitVec.xor_assoc, BitVec.xor_comm, xlc]

theorem sum_xor3 (as bs cs : List (BitVec 8)) (h1 : as.length = bs.length) (h2 : as.length = cs.length) :
    sum as ^^^ sum bs ^^^ sum cs = sum (xor3 as bs cs) := by
  unfold sum update
  have := foldB_xor3 as bs cs (~~~ 0#64) (~~~ 0#64) (~~~ 0#64) h1 h2
  rw [BitVec.xor_self, BitVec.zero_xor] at this
  rw [this, not_eq_xor (foldB _ as), not_eq_xor (foldB _ bs), not_eq_xor (foldB _ cs), not_eq_xor (_ ^^^ _)]
  generalize foldB (~~~ 0#64) as = p; generalize foldB (~~~ 0#64) bs = q; generalize foldB (~~~ 0#64) cs = r; generalize ~~~ 0#64 = e
  have : p ^^^ e ^^^ (q ^^^ e) ^^^ (r ^^^ e) = p ^^^ q ^^^ r ^^^ (e ^^^ e) ^^^ e := by simp only [BitVec.xor_comm, xlc]
  rw [this]; simp


/-! bit by bit -/
def lsb (b : Bool) : R := if b then 1#64 else 0#64
def foldBits : R → List Bool → R
  | x, [] => x
  | x, b :: r => foldBits (step (x ^^^ lsb b)) r
def packBits : List Bool → R
  | [] => 0#64
  | b :: r => lsb b ^^^ (packBits r <<< 1)

theorem lsb_bit (b : Bool) (i : Nat) : (lsb b).getLsbD i = (decide (i = 0) && b) := by
  unfold lsb; cases b <;> simp [BitVec.getLsbD_one]

theorem packBits_bit (l : List Bool) (i : Nat) (h : i < 64) : (packBits l).getLsbD i = l.getD i false := by
  induction l generalizing i with
  | nil => simp [packBits]
  | cons b r ih =>
    rw [packBits, BitVec.getLsbD_xor, lsb_bit, BitVec.getLsbD_shiftLeft]
    rcases Nat.eq_zero_or_pos i with rfl | hp
    · simp
    · obtain ⟨j, rfl⟩ : ∃ j, i = j + 1 := ⟨i - 1, by omega⟩
      simp [h, ih j (by omega)]

theorem step_shl {z : R} (h : z.getLsbD 63 = false) : step (z <<< 1) = z := by
  rw [step_eq]
  have : (z <<< 1).getLsbD 0 = false := by simp
  rw [this]
  simp only [Bool.false_eq_true, if_false, BitVec.xor_zero]
  ext i hi
  rw [← BitVec.getLsbD_eq_getElem, ← BitVec.getLsbD_eq_getElem, BitVec.getLsbD_ushiftRight, BitVec.getLsbD_shiftLeft]
  rcases Nat.lt_or_ge i 63 with h' | h'
  · simp [show 1 + i < 64 by omega]
  · obtain rfl : i = 63 := by omega
    rw [h]; simp

theorem foldBits_pack (l : List Bool) (s : R) (h : l.length ≤ 64) : foldBits s l = stepN l.length (s ^^^ packBits l) := by
  induction l generalizing s with
  | nil => simp [foldBits, packBits, stepN]
  | cons b r ih =>
    rw [foldBits, ih _ (by simp at h; omega), List.length_cons, stepN]
    congr 1
    rw [packBits, ← BitVec.xor_assoc, step_xor (s ^^^ lsb b), step_shl]
    rw [packBits_bit _ _ (by omega)]
    simp at h
    rw [List.getD_eq_getElem?_getD, List.getElem?_eq_none (by omega)]; rfl

theorem foldBits_append (s : R) (a b : List Bool) : foldBits s (a ++ b) = foldBits (foldBits s a) b := by
  induction a generalizing s with
  | nil => rfl
  | cons c a ih => exact ih _

def bits8 (c : BitVec 8) : List Bool := (List.range 8).map c.getLsbD
def bitsOf (l : List (BitVec 8)) : List Bool := l.flatMap bits8

theorem bits8_length (c : BitVec 8) : (bits8 c).length = 8 := by simp [bits8]

theorem pack_bits8 (c : BitVec 8) : packBits (bits8 c) = reg c := by
  ext i hi
  rw [← BitVec.getLsbD_eq_getElem, ← BitVec.getLsbD_eq_getElem, packBits_bit _ _ hi, reg, BitVec.getLsbD_setWidth]
  unfold bits8
  rcases Nat.lt_or_ge i 8 with h | h
  · rw [List.getD_eq_getElem?_getD, List.getElem?_map, List.getElem?_range h]; simp [hi]
  · rw [List.getD_eq_getElem?_getD, List.getElem?_eq_none (by simpa using h), BitVec.getLsbD_of_ge _ _ h]; simp

theorem foldB_bits (s : R) (l : List (BitVec 8)) : foldB s l = foldBits s (bitsOf l) := by
  induction l generalizing s with
  | nil => rfl
  | cons c l ih =>
    show foldB (stepN 8 (s ^^^ reg c)) l = foldBits s (bits8 c ++ bitsOf l)
    rw [foldBits_append, foldBits_pack (bits8 c) _ (by rw [bits8_length]; omega), pack_bits8, bits8_length, ih]

theorem bitsOf_length (l : List (BitVec 8)) : (bitsOf l).length = 8 * l.length := by
  induction l with
  | nil => rfl
  | cons c l ih =>
    show (bits8 c ++ bitsOf l).length = _
    rw [List.length_append, bits8_length, ih, List.length_cons]; omega

theorem bitsOf_get (l : List (BitVec 8)) (i : Nat) : (bitsOf l).getD i false = (l.getD (i / 8) 0#8).getLsbD (i % 8) := by
  induction l generalizing i with
  | nil => simp [bitsOf]
  | cons c l ih =>
    show (bits8 c ++ bitsOf l).getD i false = _
    rcases Nat.lt_or_ge i 8 with h | h
    · rw [List.getD_eq_getElem?_getD, List.getElem?_append_left (by rw [bits8_length]; exact h), ← List.getD_eq_getElem?_getD, show i / 8 = 0 by omega, show i % 8 = i by omega]
      unfold bits8
      rw [List.getD_eq_getElem?_getD, List.getElem?_map, List.getElem?_range h]; simp
    · rw [List.getD_eq_getElem?_getD, List.getElem?_append_right (by rw [bits8_length]; exact h), ← List.getD_eq_getElem?_getD, bits8_length, ih]
      rw [show i / 8 = (i - 8) / 8 + 1 by omega, show i % 8 = (i - 8) % 8 by omega]
      simp

theorem packBits_inj {a b : List Bool} (h : a.length = b.length) (hl : a.length ≤ 64) (e : packBits a = packBits b) : a = b := by
  refine List.ext_getElem h fun i h1 h2 => ?_
  have := congrArg (fun r : R => r.getLsbD i) e
  simp only [packBits_bit _ _ (Nat.lt_of_lt_of_le h1 hl)] at this
  simpa [List.getD_eq_getElem?_getD, h1, h2] using this

theorem bitsOf_inj {a b : List (BitVec 8)} (h : a.length = b.length) (e : bitsOf a = bitsOf b) : a = b := by
  refine List.ext_getElem h fun i h1 h2 => ?_
  apply BitVec.eq_of_getLsbD_eq
  intro k hk
  have := congrArg (fun l : List Bool => l.getD (8 * i + k) false) e
  simp only [bitsOf_get, show (8 * i + k) / 8 = i by omega, show (8 * i + k) % 8 = k by omega] at this
  simpa [List.getD_eq_getElem?_getD, h1, h2] using this

theorem sum_inj_short {a b : List (BitVec 8)} (h : a.length = b.length) (hl : a.length ≤ 8) (e : sum a = sum b) : a = b := by
  have h2 : foldB (~~~ 0#64) a = foldB (~~~ 0#64) b := by
    have := congrArg (fun r : R => ~~~ r) e
    simpa only [sum, update, BitVec.not_not] using this
  rw [foldB_bits, foldB_bits] at h2
  have l1 := bitsOf_length a
  have l2 := bitsOf_length b
  rw [foldBits_pack _ _ (by omega), foldBits_pack _ _ (by omega), l1, l2, ← h] at h2
  have h3 := stepN_inj h2
  have h4 : packBits (bitsOf a) = packBits (bitsOf b) := by
    have := congrArg (fun r : R => ~~~ 0#64 ^^^ r) h3
    simpa only [← BitVec.xor_assoc, BitVec.xor_self, BitVec.zero_xor] using this
  exact bitsOf_inj h (packBits_inj (by omega) (by omega) h4)

theorem foldBits_xor (a b : List Bool) (x y : R) (h : a.length = b.length) :
    foldBits x a ^^^ foldBits y b = foldBits (x ^^^ y) (List.zipWith xor a b) := by
  induction a generalizing b x y with
  | nil => cases b <;> simp_all [foldBits]
  | cons p a ih =>
    match b, h with
    | q :: b, h =>
      simp only [foldBits, List.zipWith_cons_cons]
      rw [ih b _ _ (by simpa using h), ← step_xor]
      congr 2
      have : lsb (xor p q) = lsb p ^^^ lsb q := by cases p <;> cases q <;> simp [lsb]
      rw [this]; ac_rfl

theorem foldBits_zeros (n : Nat) (s : R) : foldBits s (List.replicate n false) = stepN n s := by
  induction n generalizing s with
  | zero => rfl
  | succ n ih => rw [List.replicate_succ, foldBits, ih]; simp [lsb, stepN]

/-- 64 consecutive bits are turned by a pattern that is not 0: another sum -/
theorem sum_burst {b c : List (BitVec 8)} (h : b.length = c.length) (first : Nat) (hf : first + 64 ≤ 8 * b.length) (pat : R) (hp : pat ≠ 0#64)
    (hbits : ∀ i, i < 8 * b.length → (bitsOf c).getD i false = xor ((bitsOf b).getD i false) (decide (first ≤ i) && decide (i < first + 64) && pat.getLsbD (i - first))) :
    sum b ≠ sum c := by
  intro e
  have h2 : foldB (~~~ 0#64) b = foldB (~~~ 0#64) c := by
    have := congrArg (fun r : R => ~~~ r) e
    simpa only [sum, update, BitVec.not_not] using this
  have h3 : foldB (~~~ 0#64) b ^^^ foldB (~~~ 0#64) c = 0#64 := by rw [h2, BitVec.xor_self]
  rw [foldB_bits, foldB_bits] at h3
  have l1 := bitsOf_length b
  have l2 := bitsOf_length c
  rw [foldBits_xor _ _ _ _ (by omega), BitVec.xor_self] at h3
  have hz : List.zipWith xor (bitsOf b) (bitsOf c) = List.replicate first false ++ ((List.range 64).map pat.getLsbD ++ List.replicate (8 * b.length - first - 64) false) := by
    apply List.ext_getElem
    · simp; omega
    · intro i h1 h2
      have hi : i < 8 * b.length := by simp at h1; omega
      have hb := hbits i hi
      rw [List.getD_eq_getElem?_getD, List.getD_eq_getElem?_getD, List.getElem?_eq_getElem (by omega), List.getElem?_eq_getElem (by omega)] at hb
      simp only [Option.getD_some] at hb
      rw [List.getElem_zipWith, hb]
      rcases Nat.lt_or_ge i first with hc | hc
      · rw [List.getElem_append_left (by simpa using hc)]; simp; omega
      · rw [List.getElem_append_right (by simpa using hc)]
        rcases Nat.lt_or_ge i (first + 64) with hd | hd
        · rw [List.getElem_append_left (by simp; omega)]; simp [hc, hd]
        · rw [List.getElem_append_right (by simp; omega)]; simp; omega
  rw [hz, foldBits_append, foldBits_append, foldBits_zeros, foldBits_zeros, stepN_zero] at h3
  have h4 := stepN_eq_zero h3
  rw [foldBits_pack _ _ (by simp)] at h4
  have h5 := stepN_eq_zero h4
  rw [BitVec.zero_xor] at h5
  apply hp
  apply BitVec.eq_of_getLsbD_eq
  intro i hi
  have := congrArg (fun r : R => r.getLsbD i) h5
  rw [packBits_bit _ _ hi] at this
  simpa [List.getD_eq_getElem?_getD, List.getElem?_map, List.getElem?_range hi] using this

/-! matrices -/
def Lin (f : R → R) : Prop := ∀ x y, f (x ^^^ y) = f x ^^^ f y
theorem Lin.zero {f : R → R} (h : Lin f) : f 0#64 = 0#64 := by
  have := h 0#64 0#64
  simpa using this
theorem lin_stepN (n : Nat) : Lin (stepN n) := fun x y => stepN_xor n x y
theorem lin_comp {f : R → R} (h : Lin f) : Lin (fun x => f (f x)) := fun x y => by simp only; rw [h, h]

theorem shl_split (y : R) (i : Nat) : y <<< i = (if y &&& 1#64 = 1#64 then 1#64 <<< i else 0#64) ^^^ ((y >>> 1) <<< (i + 1)) := by
  have hy : y = (if y &&& 1#64 = 1#64 then 1#64 else 0#64) ^^^ ((y >>> 1) <<< 1) := by
    rw [and_one]
    ext k hk
    rw [← BitVec.getLsbD_eq_getElem, ← BitVec.getLsbD_eq_getElem, BitVec.getLsbD_xor, BitVec.getLsbD_shiftLeft, BitVec.getLsbD_ushiftRight]
    rcases Nat.eq_zero_or_pos k with rfl | hp
    · cases h : y.getLsbD 0 <;> simp
    · obtain ⟨j, rfl⟩ : ∃ j, k = j + 1 := ⟨k - 1, by omega⟩
      cases h : y.getLsbD 0 <;> simp [hk, Nat.add_comm]
  conv => lhs; rw [hy]
  rw [BitVec.shiftLeft_xor_distrib, ← BitVec.shiftLeft_add, Nat.add_comm 1 i]
  congr 1
  split <;> simp

/-- one round of 'apply' -/
theorem apply_round {f : R → R} (hf : Lin f) (x : R) (i : Nat) : f (x <<< i) = (if x &&& 1#64 = 1#64 then f (1#64 <<< i) else 0#64) ^^^ f ((x >>> 1) <<< (i + 1)) := by
  rw [shl_split x i, hf]
  congr 1
  split
  · rfl
  · exact hf.zero

theorem shr_ne {x : R} {i : Nat} (h : x >>> i ≠ 0#64) : i < 64 := by
  rcases Nat.lt_or_ge i 64 with h' | h'
  · exact h'
  · exact absurd (BitVec.ushiftRight_eq_zero h') h

theorem combine_round_odd (p n : Nat) (a : R) (h : n % 2 = 1) : stepN (2 * p * (n / 2)) (stepN p a) = stepN (p * n) a := by
  rw [← stepN_add]; congr 1
  have : n = 2 * (n / 2) + 1 := by omega
  conv => rhs; rw [this]
  rw [Nat.mul_add, Nat.mul_one, Nat.mul_comm 2 p, Nat.mul_assoc]; omega
theorem combine_round_even (p n : Nat) (a : R) (h : n % 2 = 0) : stepN (2 * p * (n / 2)) a = stepN (p * n) a := by
  congr 1
  have : n = 2 * (n / 2) := by omega
  conv => rhs; rw [this]
  rw [Nat.mul_comm 2 p, Nat.mul_assoc]

end Go.Proofs.Ythjcdikpomlpmaa.Crc
