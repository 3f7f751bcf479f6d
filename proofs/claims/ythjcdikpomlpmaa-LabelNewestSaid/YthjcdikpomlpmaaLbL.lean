/-
  Chapter 30 (label): the plain law of decoding: a list of sectors is decoded if and only if it begins with those of a valid label. No program is named here.
-/
import Derived.Test.YthjcdikpomlpmaaLbK
namespace Go.Proofs.Ythjcdikpomlpmaa.Lb
set_option linter.unusedVariables false

def sealedB (b : Bts) : Bool := decide (9 ≤ b.length) && (b.headD 0#8 == 76#8) && decide (sealL (b.take (b.length - 8)) = b)
def partT (b : Bts) : Option (Bts × Int) :=
  if sealedB b then
    let s := (stU (stU (stU (false, (b.take (b.length - 8)).drop 1)).2).2).2
    let n := stC 6 s
    let d := stB n.2
    if fin d.2.1 d.2.2 = 0 ∧ 1 ≤ n.1 then some (d.1, n.1) else none
  else none
def chunkT (b : Bts) : Option (Bts × Int) :=
  if sealedB b then
    let s := (stU (stU (stU (false, (b.take (b.length - 8)).drop 1)).2).2).2
    let n := stU s
    match rdB n.2.1 n.2.2 with
    | some (d, _) => if 1 ≤ n.1.toNat ∧ n.1.toNat ≤ 100 then some (d, (n.1.toNat : Int)) else none
    | none => none
  else none
theorem sealed_sector (b : Bts) (h : 1 ≤ b.length) (h1 : b.headD 0#8 = 76#8) : sealedB (sealL b) = true ∧ (sealL b).take ((sealL b).length - 8) = b := by
  have ht : (sealL b).take ((sealL b).length - 8) = b := by
    rw [sealL_len, Nat.add_sub_cancel]
    unfold sealL
    rw [List.take_left']
    rfl
  refine ⟨?_, ht⟩
  unfold sealedB
  rw [ht]
  have hh : (sealL b).headD 0#8 = b.headD 0#8 := by
    unfold sealL
    cases b with
    | nil => simp at h
    | cons a t => rfl
  rw [hh, h1, sealL_len]
  simp; omega
theorem part_sector {g d i n : Nat} {c : Bts} (hg : g < 18446744073709551616) (hd : d < 18446744073709551616) (hi : i < 18446744073709551616) (h1 : 1 ≤ n) (h6 : n ≤ 6) (hc : c.length < 18446744073709551616) : partT (sectorL g d i n c) = some (c, (n : Int)) := by
  obtain ⟨hs, ht⟩ := sealed_sector (bodyL g d i n c) (by rw [body_right]; simp) (by rw [body_right]; rfl)
  unfold partT sectorL
  rw [if_pos hs, ht, body_right]
  have hn : stC 6 (false, uv n ++ (uv c.length ++ (c ++ []))) = ((n : Int), (false, uv c.length ++ (c ++ []))) := stC_uv (n := (n : Int)) (by omega) (by omega) (by decide) _
  simp only [List.drop_succ_cons, List.drop_zero, stU_uv hg, stU_uv hd, stU_uv hi, hn, stB_uv c [] hc, fin_nil]
  rw [if_pos ⟨by simp, by omega⟩]
theorem chunk_sector {g d i n : Nat} {c : Bts} (hg : g < 18446744073709551616) (hd : d < 18446744073709551616) (hi : i < 18446744073709551616) (h1 : 1 ≤ n) (h6 : n ≤ 100) (hc : c.length < 18446744073709551616) : chunkT (sectorL g d i n c) = some (c, (n : Int)) := by
  obtain ⟨hs, ht⟩ := sealed_sector (bodyL g d i n c) (by rw [body_right]; simp) (by rw [body_right]; rfl)
  unfold chunkT sectorL
  rw [if_pos hs, ht, body_right]
  have hn : (BitVec.ofNat 64 n).toNat = n := by rw [BitVec.toNat_ofNat]; exact Nat.mod_eq_of_lt (by omega)
  simp only [List.drop_succ_cons, List.drop_zero, stU_uv hg, stU_uv hd, stU_uv hi, stU_uv (show n < 18446744073709551616 by omega), rdB_uv c [] hc, hn]
  rw [if_pos ⟨h1, h6⟩]
/-- a sector says all that it was made of -/
theorem sector_inj {g d i n g' d' i' n' : Nat} {c c' : Bts} (h : sectorL g d i n c = sectorL g' d' i' n' c') : g = g' ∧ d = d' ∧ i = i' ∧ n = n' ∧ c = c' := by
  unfold sectorL sealL at h
  have hb : bodyL g d i n c = bodyL g' d' i' n' c' := (List.append_inj' h (by rw [be8_len, be8_len])).1
  rw [body_right, body_right] at hb
  injection hb with _ hb
  obtain ⟨h1, hb⟩ := uv_prefix hb
  obtain ⟨h2, hb⟩ := uv_prefix hb
  obtain ⟨h3, hb⟩ := uv_prefix hb
  obtain ⟨h4, hb⟩ := uv_prefix hb
  obtain ⟨h5, hb⟩ := uv_prefix hb
  exact ⟨h1, h2, h3, h4, by simpa using hb⟩

/-! ### the parts, one behind the other -/
def joinT (pt : Bts → Option (Bts × Int)) (S : List Bts) : Nat → Option Bts
  | 0 => some []
  | k + 1 => match joinT pt S k, (S[k]?).bind pt with
    | some a, some d => some (a ++ d.1)
    | _, _ => none
abbrev LX := Lab × List Bool
def decG (pt : Bts → Option (Bts × Int)) (ps : Bts → LX × Bool) (S : List Bts) : Option LX :=
  match (S[0]?).bind pt with
  | none => none
  | some d => match joinT pt S d.2.toNat with
    | none => none
    | some b => if (ps b).2 = true ∧ encL (ps b).1.1 (ps b).1.2 = S.take d.2.toNat then some (ps b).1 else none
def decT (S : List Bts) : Option LX := decG partT parseT S
def rdecT (S : List Bts) : Option LX := decG chunkT readT S
def Begins (S : List Bts) (p : LX) : Prop := validL p.1 p.2 = true ∧ encL p.1 p.2 <+: S
theorem dec_sound {pt : Bts → Option (Bts × Int)} {ps : Bts → LX × Bool} {S : List Bts} {p : LX} (hv : ∀ b, (ps b).2 = true → validL (ps b).1.1 (ps b).1.2 = true) (h : decG pt ps S = some p) : Begins S p := by
  unfold decG at h
  split at h
  · cases h
  · split at h
    · cases h
    · rename_i d _ _ b _
      split at h
      · rename_i hc
        obtain rfl := Option.some.inj h
        exact ⟨hv b hc.1, by rw [hc.2]; exact List.take_prefix _ _⟩
      · cases h
theorem dec_complete {pt : Bts → Option (Bts × Int)} {ps : Bts → LX × Bool} {S : List Bts} {p : LX} (hp : validL p.1 p.2 = true → ps (payL p.1 p.2) = (p, true))
    (ht : ∀ i, i < partsN (payL p.1 p.2) → pt (sectorL p.1.gen.toNat p.1.disk.toNat i (partsN (payL p.1 p.2)) (partAt (payL p.1 p.2) i)) = some (partAt (payL p.1 p.2) i, (partsN (payL p.1 p.2) : Int)))
    (h : Begins S p) : decG pt ps S = some p := by
  obtain ⟨hv, T, rfl⟩ := h
  have F := fine_of hv
  have hl := enc_len F
  have hN : (encL p.1 p.2).length = partsN (payL p.1 p.2) := cutL_len _ _ _
  have hget : ∀ i, i < partsN (payL p.1 p.2) → ((encL p.1 p.2 ++ T)[i]?).bind pt = some (partAt (payL p.1 p.2) i, (partsN (payL p.1 p.2) : Int)) := by
    intro i hi
    rw [List.getElem?_append_left (by rw [hN]; exact hi)]
    unfold encL
    rw [cutL_get hi]
    exact ht i hi
  have hj : ∀ k, k ≤ partsN (payL p.1 p.2) → joinT pt (encL p.1 p.2 ++ T) k = some ((List.range k).flatMap (partAt (payL p.1 p.2))) := by
    intro k
    induction k with
    | zero => intro _; rfl
    | succ k ih =>
      intro hk
      rw [joinT, ih (by omega), hget k (by omega), List.range_succ, List.flatMap_append]
      simp
  unfold decG
  rw [hget 0 (by omega)]
  simp only [Int.toNat_natCast]
  rw [hj _ (Nat.le_refl _), parts_join]
  simp only [hp hv]
  rw [if_pos ⟨trivial, by rw [List.take_left' hN]⟩]
theorem dec_iff {S : List Bts} {p : LX} : decT S = some p ↔ Begins S p := by
  refine ⟨fun h => dec_sound (fun b => parse_valid) h, fun h => dec_complete (fun hv => parse_pay hv) (fun i hi => ?_) h⟩
  have F := fine_of h.1
  have hp := pay_len F
  have hn : partsN (payL p.1 p.2) ≤ 4 := by unfold partsN; omega
  have := F.gen.2
  have := F.disk.2
  exact part_sector (by omega) (by omega) (by omega) (by omega) (by omega) (by have := partAt_len (payL p.1 p.2) i; omega)
theorem rdec_iff {S : List Bts} {p : LX} : rdecT S = some p ↔ Begins S p := by
  refine ⟨fun h => dec_sound (fun b => read_valid) h, fun h => dec_complete (fun hv => read_pay hv) (fun i hi => ?_) h⟩
  have F := fine_of h.1
  have hp := pay_len F
  have hn : partsN (payL p.1 p.2) ≤ 4 := by unfold partsN; omega
  have := F.gen.2
  have := F.disk.2
  exact chunk_sector (by omega) (by omega) (by omega) (by omega) (by omega) (by have := partAt_len (payL p.1 p.2) i; omega)
theorem dec_same (S : List Bts) : decT S = rdecT S := by
  cases h : decT S with
  | some p => exact (rdec_iff.2 (dec_iff.1 h)).symm
  | none =>
    cases h2 : rdecT S with
    | none => rfl
    | some p => rw [dec_iff.2 (rdec_iff.1 h2)] at h; cases h
/-- the first sectors of two labels' lists are equal only if the lists have one length -/
theorem begins_parts {S S' : List Bts} {p q : LX} (h : Begins S p) (g : Begins S' q) (h0 : S[0]? = S'[0]?) : (encL p.1 p.2).length = (encL q.1 q.2).length := by
  obtain ⟨hv, T, rfl⟩ := h
  obtain ⟨gv, U, rfl⟩ := g
  have h1 := enc_len (fine_of hv)
  have h2 := enc_len (fine_of gv)
  rw [List.getElem?_append_left (by omega), List.getElem?_append_left (by omega)] at h0
  unfold encL at h0 h1 h2 ⊢
  rw [cutL_len] at h1 h2 ⊢
  rw [cutL_len]
  rw [cutL_get (by omega), cutL_get (by omega)] at h0
  exact (sector_inj (Option.some.inj h0)).2.2.2.1
/-- where a sector lacks, or is empty, nothing is decoded -/
theorem dec_lost {l : Lab} {x : List Bool} {T : List Bts} {k : Nat} (hv : validL l x = true) (hk : k < (encL l x).length) (hp : ∀ i, i < k → T[i]? = (encL l x)[i]?) (hl : T[k]? = none ∨ T[k]? = some []) : decT T = none := by
  cases h : decT T with
  | none => rfl
  | some q =>
    exfalso
    have hb := dec_iff.1 h
    have hbl : Begins (encL l x) (l, x) := ⟨hv, List.prefix_refl _⟩
    obtain ⟨gv, U, rfl⟩ := hb
    have h2 := enc_len (fine_of gv)
    have hne : (encL q.1 q.2).length ≤ k := by
      rcases Nat.lt_or_ge k (encL q.1 q.2).length with h3 | h3
      · exfalso
        rw [List.getElem?_append_left h3] at hl
        rcases hl with hl | hl
        · rw [List.getElem?_eq_getElem h3] at hl; cases hl
        · unfold encL at hl h3
          rw [cutL_len] at h3
          rw [cutL_get h3] at hl
          have := congrArg (fun o : Option Bts => (o.getD []).length) hl
          simp only [Option.getD_some, List.length_nil] at this
          unfold sectorL at this
          rw [sealL_len] at this
          omega
      · exact h3
    have := begins_parts ⟨gv, List.prefix_append _ U⟩ hbl (hp 0 (by omega))
    simp only at this
    omega
/-- what a cut payload is decoded to -/
theorem dec_cut {g d : Nat} {p : Bts} {q : LX} (h : decT (cutL g d p) = some q) : payL q.1 q.2 = p ∧ q.1.gen.toNat = g ∧ q.1.disk.toNat = d := by
  obtain ⟨hv, T, hT⟩ := dec_iff.1 h
  have h1 := enc_len (fine_of hv)
  have hget : ∀ i, i < (encL q.1 q.2).length → (encL q.1 q.2)[i]? = (cutL g d p)[i]? := fun i hi => by rw [← hT, List.getElem?_append_left hi]
  have hlen : (encL q.1 q.2).length ≤ (cutL g d p).length := by rw [← hT, List.length_append]; omega
  unfold encL at h1 hget hlen
  rw [cutL_len] at h1 hget hlen
  rw [cutL_len] at hlen
  have key : ∀ i, i < partsN (payL q.1 q.2) → q.1.gen.toNat = g ∧ q.1.disk.toNat = d ∧ i = i ∧ partsN (payL q.1 q.2) = partsN p ∧ partAt (payL q.1 q.2) i = partAt p i := by
    intro i hi
    have := hget i hi
    rw [cutL_get hi, cutL_get (by omega)] at this
    exact sector_inj (Option.some.inj this)
  have k0 := key 0 (by omega)
  refine ⟨?_, k0.1, k0.2.1⟩
  rw [← parts_join (payL q.1 q.2), ← parts_join p, ← k0.2.2.2.1]
  rw [List.flatMap_def, List.flatMap_def]
  congr 1
  refine List.map_congr_left fun i hi => ?_
  exact (key i (List.mem_range.1 hi)).2.2.2.2
end Go.Proofs.Ythjcdikpomlpmaa.Lb
