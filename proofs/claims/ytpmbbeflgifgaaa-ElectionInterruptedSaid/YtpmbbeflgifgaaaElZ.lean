/-
  Chapter 31 (election): plain laws: each disk has at most one label; one checkpoint, or two.
-/
import Derived.Test.YtpmbbeflgifgaaaElY
namespace Go.Proofs.Ytpmbbeflgifgaaa
open Go.RowKit
set_option linter.unusedVariables false

theorem best_gen {ls : List LD} {rd : List Bool} {m j : Nat} (hn : ls.length < 1000) (h : bestE ls rd = some m) (hj : j < ls.length) (hc : candN ls rd j = true) : genN ls j ≤ genN ls m := by
  have hb := (El.bestTo_some h).top j hj hc
  rcases Nat.lt_or_ge (genN ls m) (genN ls j) with e | e
  · have := El.key_gen (labels_ok ls rd hn) e
    have h2 : keyE ls rd j ≤ keyE ls rd m := hb
    unfold keyE at h2
    omega
  · exact e
theorem best_some {ls : List LD} {rd : List Bool} {j : Nat} (hj : j < ls.length) (hc : candN ls rd j = true) : ∃ m, bestE ls rd = some m := by
  cases h : bestE ls rd with
  | some m => exact ⟨m, rfl⟩
  | none => have := El.bestTo_none h j hj; rw [hc] at this; cases this
/-- each disk's label stands at its number -/
theorem places_id {ls : List LD} {rd : List Bool} {m n : Nat} (hl : ls.length = n) (hd : ∀ d, d < n → diskN ls d = d) (hD : disksN ls m = n) (hc : ∀ d, d < n → candN ls rd d = true → curN ls m d = true ∨ oldN ls m d = true) :
    atE ls rd m = (List.range n).map fun d => if candN ls rd d then (d : Int) else -1 := by
  unfold atE
  rw [hD]
  apply List.map_congr_left
  intro d hdn
  rw [List.mem_range] at hdn
  rw [hl]
  have honly : ∀ (p : Nat → Bool) i, i < n → (candN ls rd i && (diskN ls i == d && p i)) = true → i = d := fun p i hi h => by
    simp only [Bool.and_eq_true, beq_iff_eq] at h
    rw [← h.2.1, hd i hi]
  unfold El.place
  cases hf : El.firstN (fun i => candN ls rd i && (diskN ls i == d && curN ls m i)) n with
  | some i =>
    obtain ⟨h1, h2⟩ := El.firstN_some hf
    have h3 := honly _ i h1 h2
    subst h3
    simp only [Bool.and_eq_true] at h2
    simp only [h2.1, if_true]
  | none =>
    simp only
    have hn1 := El.firstN_none hf d hdn
    cases ho : El.firstN (fun i => candN ls rd i && (diskN ls i == d && oldN ls m i)) n with
    | some i =>
      obtain ⟨h1, h2⟩ := El.firstN_some ho
      have h3 := honly _ i h1 h2
      subst h3
      simp only [Bool.and_eq_true] at h2
      simp only [h2.1, if_true]
    | none =>
      have hn2 := El.firstN_none ho d hdn
      simp only
      cases hcd : candN ls rd d with
      | false => rfl
      | true =>
        rcases hc d hdn hcd with e | e
        · simp [hcd, hd d hdn, e] at hn1
        · simp [hcd, hd d hdn, e] at hn2
theorem cnt_id {n : Nat} {c : Nat → Bool} : cntN ((List.range n).map fun d => if c d then (d : Int) else -1) = ((List.range n).filter fun d => !c d).length := by
  unfold cntN
  rw [List.filter_map, List.length_map]
  congr 1
  apply List.filter_congr
  intro d _
  simp only [Function.comp]
  rw [Bool.eq_iff_iff, decide_eq_true_eq]
  by_cases h : c d = true
  · have e : (if c d = true then (d : Int) else -1) = d := if_pos h
    constructor
    · intro h1; rw [e] at h1; omega
    · intro h1; rw [h] at h1; cases h1
  · have e : (if c d = true then (d : Int) else -1) = -1 := if_neg h
    constructor
    · intro _
      have h2 : c d = false := by simpa using h
      rw [h2]; rfl
    · intro _; rw [e]; decide
/-- labels of one checkpoint -/
def oneL (l : Lab) (d : Nat) : Lab := { l with disk := d }
theorem valid_one {l : Lab} {x : List Bool} {d : Nat} (h : validL l x = true) (hd : d < x.length) : validL (oneL l d) x = !(x.getD d false) := by
  have hf := valid_facts h
  have hg : x.getD d true = x.getD d false := by rw [getD_in hd, getD_in hd]
  unfold validL labHead at h ⊢
  simp only [Bool.and_eq_true, decide_eq_true_eq] at h
  show (cfgB l.c && decide _ && decide _) = _
  rw [h.1.1, Bool.true_and]
  have e1 : (0 ≤ (oneL l d).disk ∧ (oneL l d).disk < (oneL l d).c.d ∧ 1 ≤ un (oneL l d).gen ∧ un (oneL l d).gen ≤ 4294967295 ∧ un (oneL l d).prev < un (oneL l d).gen) := by
    refine ⟨Int.natCast_nonneg _, ?_, h.1.2.2.2⟩
    show (d : Int) < l.c.d
    omega
  rw [decide_eq_true e1, Bool.true_and]
  have e2 : x.getD (oneL l d).disk.toNat true = x.getD d false := hg
  cases hx : x.getD d false with
  | false =>
    rw [decide_eq_true]
    · rfl
    · exact ⟨h.2.1, h.2.2.1, by rw [e2, hx], h.2.2.2.2⟩
  | true =>
    rw [decide_eq_false]
    · rfl
    · intro h2; rw [e2, hx] at h2; cases h2.2.2.1
theorem one_eq {l : Lab} {x : List Bool} {d e : Nat} : eqL (oneL l d) (oneL l e) x x = true := eqL_iff.2 ⟨rfl, rfl⟩
theorem one_eq0 {l : Lab} {x : List Bool} {d : Nat} : eqL (oneL l d) l x x = true := eqL_iff.2 ⟨rfl, rfl⟩

def missLs (l : Lab) (x : List Bool) : List LD := (List.range x.length).map fun d => (oneL l d, x)
def missRd (x ms : List Bool) : List Bool := (List.range x.length).map fun d => !(ms.getD d false)
def missN (x ms : List Bool) (k : Nat) : Nat := ((List.range k).filter fun d => ms.getD d false || x.getD d false).length
theorem missN_next (x ms : List Bool) (k : Nat) : missN x ms (k + 1) = missN x ms k + if ms.getD k false || x.getD k false then 1 else 0 := by
  unfold missN
  rw [List.range_succ, List.filter_append, List.length_append]
  cases h : (ms.getD k false || x.getD k false) <;> simp only [List.filter_cons, List.filter_nil, h] <;> rfl
theorem missN_le (x ms : List Bool) (k : Nat) : missN x ms k ≤ k := Nat.le_trans (List.length_filter_le _ _) (by rw [List.length_range]; exact Nat.le_refl k)
theorem miss_ld {l : Lab} {x : List Bool} {d : Nat} (h : d < x.length) : ldN (missLs l x) d = (oneL l d, x) := by
  have h2 : d < (missLs l x).length := by unfold missLs; simpa using h
  rw [ldN_in h2]
  simp [missLs]
theorem miss_len {l : Lab} {x : List Bool} : (missLs l x).length = x.length := by unfold missLs; simp
theorem miss_cand {l : Lab} {x ms : List Bool} {d : Nat} (hv : validL l x = true) (h : d < x.length) : candN (missLs l x) (missRd x ms) d = !(ms.getD d false || x.getD d false) := by
  unfold candN
  rw [miss_ld h]
  have : (missRd x ms).getD d false = !(ms.getD d false) := by
    have h2 : d < (missRd x ms).length := by unfold missRd; simpa using h
    rw [getD_in h2]; simp [missRd]
  rw [this, valid_one hv h, Bool.not_or]
theorem miss_law {l : Lab} {x ms : List Bool} (hv : validL l x = true) (hm : x.length ≤ ms.length) :
    (3 < missN x ms x.length → errE (missLs l x) (missRd x ms) = 12 ∨ errE (missLs l x) (missRd x ms) = 9 ∧ missN x ms x.length = x.length) ∧
    (missN x ms x.length ≤ 3 → errE (missLs l x) (missRd x ms) = 0 ∧ eqL (labE (missLs l x) (missRd x ms)).1 l (labE (missLs l x) (missRd x ms)).2 x = true ∧ cntN (placesE (missLs l x) (missRd x ms)) = missN x ms x.length) := by
  obtain ⟨n, hn⟩ : ∃ n, x.length = n := ⟨_, rfl⟩
  have hvf := valid_facts hv
  have hlen : (missLs l x).length = n := by rw [miss_len, hn]
  have hrl : (missLs l x).length = (missRd x ms).length := by rw [miss_len]; unfold missRd; simp
  have hdisk : ∀ d, d < n → diskN (missLs l x) d = d := fun d hd => by unfold diskN; rw [miss_ld (by omega)]; rfl
  have hcd : ∀ d, d < n → candN (missLs l x) (missRd x ms) d = !(ms.getD d false || x.getD d false) := fun d hd => miss_cand hv (by omega)
  rw [hn]
  cases hb : bestE (missLs l x) (missRd x ms) with
  | none =>
    have he := errE_none hrl hb
    have hall : missN x ms n = n := by
      unfold missN
      rw [List.filter_eq_self.2, List.length_range]
      intro d hd
      rw [List.mem_range] at hd
      have := El.bestTo_none hb d (by rw [hlen]; exact hd)
      rw [hcd d hd, Bool.not_eq_false'] at this
      exact this
    rw [hall]
    exact ⟨fun _ => .inr ⟨he, rfl⟩, fun h => by omega⟩
  | some m =>
    obtain ⟨hm1, hm2⟩ := best_facts hb
    rw [hlen] at hm1
    have he := errE_some hrl hb
    have hD : disksN (missLs l x) m = n := by
      unfold disksN
      rw [miss_ld (by omega)]
      show l.c.d.toNat = n
      omega
    have hat := places_id (rd := missRd x ms) hlen hdisk hD (fun d hd hc => by
      left
      unfold curN deadL
      rw [hdisk d hd, miss_ld (show m < x.length by omega)]
      rw [hcd d hd] at hc
      have h2 : eqN (missLs l x) d m = true := by
        unfold eqN
        rw [miss_ld (by omega), miss_ld (by omega)]
        exact one_eq
      rw [h2, Bool.and_true]
      simp only [Bool.not_eq_true', Bool.or_eq_false_iff] at hc
      show (!x.getD d false) = true
      rw [hc.2]; rfl)
    have hcnt : cntN (atE (missLs l x) (missRd x ms) m) = missN x ms n := by
      rw [hat, cnt_id]
      unfold missN
      congr 1
      apply List.filter_congr
      intro d hd
      rw [List.mem_range] at hd
      rw [hcd d hd, Bool.not_not]
    rw [hcnt] at he
    refine ⟨fun h => .inl (by rw [he, if_pos h]), fun h => ?_⟩
    rw [if_neg (by omega)] at he
    obtain ⟨g1, g2⟩ := good_lab he hb
    refine ⟨he, ?_, by rw [g2]; exact hcnt⟩
    rw [g1, miss_ld (by omega)]
    exact one_eq0
end Go.Proofs.Ytpmbbeflgifgaaa
