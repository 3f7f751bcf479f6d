/-
  Chapter 31 (election): the plain law of an interrupted checkpoint.
-/
import Derived.Test.YtpmbbeflgifgaaaElZ
namespace Go.Proofs.Ytpmbbeflgifgaaa
open Go.RowKit
set_option linter.unusedVariables false

/-- what Valid asks, but for the label's own disk -/
def validW (l : Lab) (x : List Bool) : Prop := cfgB l.c = true ∧ 1 ≤ l.gen.toNat ∧ l.gen.toNat ≤ 4294967295 ∧ l.prev.toNat < l.gen.toNat ∧ (x.length : Int) = l.c.d ∧ deadN x x.length ≤ 3 ∧ 0 ≤ l.blob ∧ l.blob ≤ 1048576
theorem validW_of {l : Lab} {x : List Bool} (h : validL l x = true) : validW l x := by
  have hf := valid_facts h
  unfold validL at h
  simp only [Bool.and_eq_true, decide_eq_true_eq] at h
  exact ⟨h.1.1, hf.2.2.2.2.1, hf.2.2.2.2.2.2.2.2.2, hf.2.2.2.2.2.1, hf.2.2.2.2.2.2.1, hf.2.2.2.2.2.2.2.2.1, h.2.2.2.2⟩
theorem valid_oneW {l : Lab} {x : List Bool} {d : Nat} (h : validW l x) (hd : d < x.length) : validL (oneL l d) x = !(x.getD d false) := by
  obtain ⟨h1, h2, h3, h4, h5, h6, h7⟩ := h
  have hg : x.getD d true = x.getD d false := by rw [getD_in hd, getD_in hd]
  have e1 : un l.gen = (l.gen.toNat : Int) := rfl
  have e2 : un l.prev = (l.prev.toNat : Int) := rfl
  unfold validL labHead
  show (cfgB l.c && decide _ && decide _) = _
  rw [h1, Bool.true_and]
  have e3 : (0 ≤ (oneL l d).disk ∧ (oneL l d).disk < (oneL l d).c.d ∧ 1 ≤ un (oneL l d).gen ∧ un (oneL l d).gen ≤ 4294967295 ∧ un (oneL l d).prev < un (oneL l d).gen) := by
    show 0 ≤ (d : Int) ∧ (d : Int) < l.c.d ∧ 1 ≤ un l.gen ∧ un l.gen ≤ 4294967295 ∧ un l.prev < un l.gen
    rw [e1, e2]
    omega
  rw [decide_eq_true e3, Bool.true_and]
  have e4 : x.getD (oneL l d).disk.toNat true = x.getD d false := hg
  cases hx : x.getD d false with
  | false =>
    rw [decide_eq_true]
    · rfl
    · exact ⟨h5, h6, by rw [e4, hx], h7⟩
  | true =>
    rw [decide_eq_false]
    · rfl
    · intro h2; rw [e4, hx] at h2; cases h2.2.2.1
/-- the label behind a checkpoint, and its list -/
def nextL (l : Lab) (s : BitVec 64) : Lab := { l with gen := BitVec.ofNat 64 (l.gen.toNat + 1), prev := l.gen, sum := s, root := BitVec.ofNat 64 (s.toNat / 2) }
def nextX (x lost : List Bool) : List Bool := (List.range x.length).map fun d => x.getD d false || lost.getD d false
theorem nextX_len (x lost : List Bool) : (nextX x lost).length = x.length := by unfold nextX; simp
theorem nextX_get {x lost : List Bool} {d : Nat} (h : d < x.length) : (nextX x lost).getD d false = (x.getD d false || lost.getD d false) := by
  rw [getD_in (by rw [nextX_len]; exact h)]; simp [nextX]
theorem next_gen {l : Lab} {s : BitVec 64} (h : l.gen.toNat + 1 < 4294967296) : (nextL l s).gen.toNat = l.gen.toNat + 1 := by
  show (BitVec.ofNat 64 (l.gen.toNat + 1)).toNat = _
  rw [BitVec.toNat_ofNat, Nat.mod_eq_of_lt (by omega)]
theorem next_valid {l : Lab} {x lost : List Bool} {s : BitVec 64} (h : validW l x) (hg : l.gen.toNat + 1 < 4294967296) (hd : deadN (nextX x lost) x.length ≤ 3) : validW (nextL l s) (nextX x lost) := by
  obtain ⟨h1, h2, h3, h4, h5, h6, h7⟩ := h
  refine ⟨h1, by rw [next_gen hg]; omega, by rw [next_gen hg]; omega, by rw [next_gen hg]; show l.gen.toNat < _; omega, by rw [nextX_len]; exact h5, by rw [nextX_len]; exact hd, h7⟩
def intLs (l : Lab) (x lost done : List Bool) (s : BitVec 64) : List LD := (List.range x.length).map fun d => if done.getD d false then (oneL (nextL l s) d, nextX x lost) else (oneL l d, x)
def intRd (x lost : List Bool) : List Bool := (List.range x.length).map fun d => !((nextX x lost).getD d false)
def intAny (x lost done : List Bool) (k : Nat) : Bool := (List.range k).any fun d => done.getD d false && !((nextX x lost).getD d false)
theorem intAny_next (x lost done : List Bool) (k : Nat) : intAny x lost done (k + 1) = (intAny x lost done k || (done.getD k false && !((nextX x lost).getD k false))) := by
  unfold intAny; rw [List.range_succ, List.any_append]; simp only [List.any_cons, List.any_nil, Bool.or_false]
theorem int_len {l : Lab} {x lost done : List Bool} {s : BitVec 64} : (intLs l x lost done s).length = x.length := by unfold intLs; simp
theorem intRd_len {x lost : List Bool} : (intRd x lost).length = x.length := by unfold intRd; simp
theorem int_ld {l : Lab} {x lost done : List Bool} {s : BitVec 64} {d : Nat} (h : d < x.length) : ldN (intLs l x lost done s) d = if done.getD d false then (oneL (nextL l s) d, nextX x lost) else (oneL l d, x) := by
  have h2 : d < (intLs l x lost done s).length := by rw [int_len]; exact h
  rw [ldN_in h2]
  simp only [intLs, List.getElem_map, List.getElem_range]
theorem deadN_cnt (x : List Bool) : ∀ k, k ≤ x.length → deadN x k = ((List.range k).filter fun d => x.getD d false).length
  | 0, _ => by simp [deadN]
  | k + 1, h => by
    rw [deadN_succ (show k < x.length by omega), deadN_cnt x k (by omega), List.range_succ, List.filter_append, List.length_append]
    congr 1
    rw [show x[k]'(by omega) = x.getD k false from (getD_in (by omega)).symm]
    cases hx : x.getD k false <;> simp only [List.filter_cons, List.filter_nil, hx] <;> rfl
theorem int_law {l : Lab} {x lost done : List Bool} {s : BitVec 64} (hv : validL l x = true) (hg : l.gen.toNat + 1 < 4294967296) (hd3 : deadN (nextX x lost) x.length ≤ 3) :
    errE (intLs l x lost done s) (intRd x lost) = 0 ∧ placesE (intLs l x lost done s) (intRd x lost) = ((List.range x.length).map fun d => if !((nextX x lost).getD d false) then (d : Int) else -1) ∧
    eqL (labE (intLs l x lost done s) (intRd x lost)).1 (nextL l s) (labE (intLs l x lost done s) (intRd x lost)).2 (nextX x lost) = intAny x lost done x.length ∧
    (intAny x lost done x.length = false → eqL (labE (intLs l x lost done s) (intRd x lost)).1 l (labE (intLs l x lost done s) (intRd x lost)).2 x = true) := by
  have hw := validW_of hv
  have hw2 := next_valid (s := s) hw hg hd3
  have hf := valid_facts hv
  have hgn := next_gen (s := s) hg
  obtain ⟨n, hn⟩ : ∃ n, x.length = n := ⟨_, rfl⟩
  have hxl : (nextX x lost).length = n := by rw [nextX_len, hn]
  have hlen : (intLs l x lost done s).length = n := by rw [int_len, hn]
  have hrl : (intLs l x lost done s).length = (intRd x lost).length := by rw [int_len, intRd_len]
  have hsub : ∀ d, d < n → (nextX x lost).getD d false = false → x.getD d false = false := fun d hd h => by
    rw [nextX_get (by omega), Bool.or_eq_false_iff] at h; exact h.1
  have hdisk : ∀ d, d < n → diskN (intLs l x lost done s) d = d := fun d hd => by
    unfold diskN; rw [int_ld (by omega)]; split <;> rfl
  have hcd : ∀ d, d < n → candN (intLs l x lost done s) (intRd x lost) d = !((nextX x lost).getD d false) := fun d hd => by
    have hr : (intRd x lost).getD d false = !((nextX x lost).getD d false) := by
      rw [getD_in (by rw [intRd_len]; omega)]; simp only [intRd, List.getElem_map, List.getElem_range]
    unfold candN
    rw [hr, int_ld (by omega)]
    cases hx : (nextX x lost).getD d false with
    | true => rfl
    | false =>
      split
      · rw [valid_oneW hw2 (by omega), hx]; rfl
      · rw [valid_oneW hw (by omega), hsub d hd hx]; rfl
  have hgen : ∀ d, d < n → genN (intLs l x lost done s) d = if done.getD d false then l.gen.toNat + 1 else l.gen.toNat := fun d hd => by
    unfold genN
    rw [int_ld (by omega)]
    split
    · exact hgn
    · rfl
  -- a candidate
  have hex : ∃ d, d < n ∧ (nextX x lost).getD d false = false := by
    rcases Classical.em (∃ d, d < n ∧ (nextX x lost).getD d false = false) with h | h
    · exact h
    · exfalso
      rw [hn, deadN_cnt _ _ (by omega), List.filter_eq_self.2, List.length_range] at hd3
      · omega
      · intro d hd
        rw [List.mem_range] at hd
        cases hx : (nextX x lost).getD d false with
        | true => rfl
        | false => exact absurd ⟨d, hd, hx⟩ h
  obtain ⟨d0, hd0, hx0⟩ := hex
  obtain ⟨m, hb⟩ := best_some (ls := intLs l x lost done s) (rd := intRd x lost) (j := d0) (by rw [hlen]; exact hd0) (by rw [hcd d0 hd0, hx0]; rfl)
  obtain ⟨hm1, hm2⟩ := best_facts hb
  rw [hlen] at hm1
  have hmx : (nextX x lost).getD m false = false := by rw [hcd m hm1] at hm2; simpa using hm2
  have hmax : ∀ d, d < n → (nextX x lost).getD d false = false → genN (intLs l x lost done s) d ≤ genN (intLs l x lost done s) m := fun d hd h =>
    best_gen (by rw [hlen]; omega) hb (by rw [hlen]; exact hd) (by rw [hcd d hd, h]; rfl)
  have hany : done.getD m false = intAny x lost done n := by
    cases ha : intAny x lost done n with
    | true =>
      unfold intAny at ha
      rw [List.any_eq_true] at ha
      obtain ⟨d, hd, h⟩ := ha
      rw [List.mem_range] at hd
      simp only [Bool.and_eq_true, Bool.not_eq_true'] at h
      have := hmax d hd h.2
      rw [hgen d hd, hgen m hm1, if_pos h.1] at this
      cases hdm : done.getD m false with
      | true => rfl
      | false => rw [hdm, if_neg (by simp)] at this; omega
    | false =>
      cases hdm : done.getD m false with
      | false => rfl
      | true =>
        unfold intAny at ha
        rw [List.any_eq_false] at ha
        have := ha m (List.mem_range.2 hm1)
        rw [hdm, hmx] at this
        exact absurd rfl this
  have hD : disksN (intLs l x lost done s) m = n := by
    unfold disksN
    rw [int_ld (by omega)]
    split <;> (show l.c.d.toNat = n; omega)
  have hat := places_id (rd := intRd x lost) hlen hdisk hD (fun d hd hc => by
    rw [hcd d hd] at hc
    have hxd : (nextX x lost).getD d false = false := by simpa using hc
    have hmaxd := hmax d hd hxd
    have hld := int_ld (l := l) (lost := lost) (done := done) (s := s) (show d < x.length by omega)
    have hlm := int_ld (l := l) (lost := lost) (done := done) (s := s) (show m < x.length by omega)
    rw [hgen d hd, hgen m hm1] at hmaxd
    cases hdm : done.getD m false with
    | true =>
      rw [hdm, if_pos rfl] at hlm
      cases hdd : done.getD d false with
      | true =>
        rw [hdd, if_pos rfl] at hld
        left
        unfold curN deadL eqN
        rw [hdisk d hd, hlm, hld]
        simp only
        rw [hxd, one_eq]; rfl
      | false =>
        rw [hdd, if_neg (by simp)] at hld
        right
        unfold oldN deadL kinN genN
        rw [hdisk d hd, hlm, hld]
        simp only
        rw [hxd]
        have e1 : (un (oneL l d).array == un (oneL (nextL l s) m).array) = true := by rw [beq_iff_eq]; rfl
        have e2 : eqCfg (oneL l d).c (oneL (nextL l s) m).c = true := eqCfg_iff.2 rfl
        have e3 : ((oneL l d).gen.toNat == (oneL (nextL l s) m).prev.toNat) = true := by rw [beq_iff_eq]; rfl
        rw [e1, e2, e3]; rfl
    | false =>
      rw [hdm, if_neg (by simp)] at hlm
      cases hdd : done.getD d false with
      | true => rw [hdm, hdd, if_pos rfl, if_neg (by simp)] at hmaxd; omega
      | false =>
        rw [hdd, if_neg (by simp)] at hld
        left
        unfold curN deadL eqN
        rw [hdisk d hd, hlm, hld]
        simp only
        rw [hsub d hd hxd, one_eq]; rfl)
  have hat2 : atE (intLs l x lost done s) (intRd x lost) m = (List.range n).map fun d => if !((nextX x lost).getD d false) then (d : Int) else -1 := by
    rw [hat]
    apply List.map_congr_left
    intro d hd
    rw [List.mem_range] at hd
    rw [hcd d hd]
  have hcnt : cntN (atE (intLs l x lost done s) (intRd x lost) m) ≤ 3 := by
    rw [hat2, cnt_id]
    rw [hn, deadN_cnt _ _ (by omega)] at hd3
    have : (List.range n).filter (fun d => !(!((nextX x lost).getD d false))) = (List.range n).filter fun d => (nextX x lost).getD d false := List.filter_congr fun d _ => Bool.not_not _
    rw [this]; exact hd3
  have he := errE_some hrl hb
  rw [if_neg (by omega)] at he
  obtain ⟨g1, g2⟩ := good_lab he hb
  rw [hn, g1, g2, int_ld (show m < x.length by omega), ← hany]
  refine ⟨he, hat2, ?_, ?_⟩
  · cases hdm : done.getD m false with
    | true => rw [if_pos rfl]; exact one_eq0
    | false =>
      rw [if_neg (by simp)]
      cases hq : eqL (oneL l m) (nextL l s) x (nextX x lost) with
      | false => rfl
      | true =>
        have := congrArg (fun z : Lab => z.gen.toNat) (eqL_iff.1 hq).1
        rw [hgn] at this
        have e : l.gen.toNat = l.gen.toNat + 1 := this
        omega
  · intro hdm
    rw [hdm, if_neg (by simp)]
    exact one_eq0
end Go.Proofs.Ytpmbbeflgifgaaa
