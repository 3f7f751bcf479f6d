/-
  Chapter 31 (election): what is elected, as a plain function of the labels.
-/
import Derived.Test.YtpmbbeflgifgaaaElI
import Derived.Test.YtpmbbeflgifgaaaElQ
namespace Go.Proofs.Ytpmbbeflgifgaaa
open Go.RowKit
set_option linter.unusedVariables false

def candN (ls : List LD) (rd : List Bool) (i : Nat) : Bool := rd.getD i false && validL (ldN ls i).1 (ldN ls i).2
def keyE (ls : List LD) (rd : List Bool) : Nat → Nat := El.keyN ls.length (candN ls rd) (genN ls) (eqN ls) (diskN ls) (deadL ls)
def bestE (ls : List LD) (rd : List Bool) : Option Nat := El.bestTo (candN ls rd) (keyE ls rd) ls.length
/-- array and configuration are the same -/
def kinN (ls : List LD) (m i : Nat) : Bool := (un (ldN ls i).1.array == un (ldN ls m).1.array) && eqCfg (ldN ls i).1.c (ldN ls m).1.c
def curN (ls : List LD) (m i : Nat) : Bool := !(deadL ls m).getD (diskN ls i) false && eqN ls i m
def oldN (ls : List LD) (m i : Nat) : Bool := !(deadL ls m).getD (diskN ls i) false && (kinN ls m i && (genN ls i == (ldN ls m).1.prev.toNat))
def disksN (ls : List LD) (m : Nat) : Nat := (ldN ls m).1.c.d.toNat
def atE (ls : List LD) (rd : List Bool) (m : Nat) : List Int := (List.range (disksN ls m)).map fun d => El.place (fun i => candN ls rd i && (diskN ls i == d && curN ls m i)) (fun i => candN ls rd i && (diskN ls i == d && oldN ls m i)) ls.length
def errE (ls : List LD) (rd : List Bool) : Nat := if ls.length ≠ rd.length then 1 else match bestE ls rd with
  | none => 9
  | some m => if 3 < cntN (atE ls rd m) then 12 else 0
def labE (ls : List LD) (rd : List Bool) : LD := match bestE ls rd with
  | none => ld0
  | some m => if errE ls rd = 0 then ldN ls m else ld0
def placesE (ls : List LD) (rd : List Bool) : List Int := match bestE ls rd with
  | none => []
  | some m => if errE ls rd = 0 then atE ls rd m else []

theorem errE_none {ls : List LD} {rd : List Bool} (h : ls.length = rd.length) (hb : bestE ls rd = none) : errE ls rd = 9 := by
  unfold errE; rw [if_neg (by simpa using h), hb]
theorem errE_some {ls : List LD} {rd : List Bool} {m : Nat} (h : ls.length = rd.length) (hb : bestE ls rd = some m) : errE ls rd = if 3 < cntN (atE ls rd m) then 12 else 0 := by
  unfold errE; rw [if_neg (by simpa using h), hb]
theorem bad_lab {ls : List LD} {rd : List Bool} (h : errE ls rd ≠ 0) : labE ls rd = ld0 ∧ placesE ls rd = [] := by
  unfold labE placesE
  constructor <;> split <;> first | rfl | rw [if_neg h]
theorem good_lab {ls : List LD} {rd : List Bool} {m : Nat} (h : errE ls rd = 0) (hb : bestE ls rd = some m) : labE ls rd = ldN ls m ∧ placesE ls rd = atE ls rd m := by
  unfold labE placesE
  rw [hb]
  exact ⟨if_pos h, if_pos h⟩
theorem valid_facts {l : Lab} {x : List Bool} (h : validL l x = true) : 0 ≤ l.disk ∧ l.disk < l.c.d ∧ 4 ≤ l.c.d ∧ l.c.d ≤ 60 ∧ 1 ≤ l.gen.toNat ∧ l.prev.toNat < l.gen.toNat ∧ (x.length : Int) = l.c.d ∧ x.getD l.disk.toNat true = false ∧ deadN x x.length ≤ 3 ∧ l.gen.toNat ≤ 4294967295 := by
  unfold validL cfgB cfgHead labHead at h
  simp only [Bool.and_eq_true, decide_eq_true_eq] at h
  obtain ⟨⟨⟨⟨h1, _⟩, _⟩, h2⟩, h3⟩ := h
  have e1 : un l.gen = (l.gen.toNat : Int) := rfl
  have e2 : un l.prev = (l.prev.toNat : Int) := rfl
  rw [e1, e2] at h2
  refine ⟨h2.1, h2.2.1, h1.1, h1.2.1, ?_, ?_, h3.1, h3.2.2.1, h3.2.1, ?_⟩ <;> omega
theorem cand_valid {ls : List LD} {rd : List Bool} {i : Nat} (h : candN ls rd i = true) : validL (ldN ls i).1 (ldN ls i).2 = true := by
  unfold candN at h; rw [Bool.and_eq_true] at h; exact h.2
theorem cand_disk {ls : List LD} {rd : List Bool} {i : Nat} (h : candN ls rd i = true) : 0 ≤ (ldN ls i).1.disk ∧ diskN ls i < 60 := by
  have := valid_facts (cand_valid h)
  exact ⟨this.1, by unfold diskN; omega⟩
theorem eqN_iff {ls : List LD} {i j : Nat} : eqN ls i j = true ↔ { (ldN ls i).1 with disk := (ldN ls j).1.disk } = (ldN ls j).1 ∧ (ldN ls i).2 = (ldN ls j).2 := eqL_iff
theorem eqN_refl (ls : List LD) (i : Nat) : eqN ls i i = true := eqN_iff.2 ⟨rfl, rfl⟩
theorem eqN_symm {ls : List LD} {i j : Nat} (h : eqN ls i j = true) : eqN ls j i = true := by
  obtain ⟨h1, h2⟩ := eqN_iff.1 h
  exact eqN_iff.2 ⟨by rw [← h1], h2.symm⟩
theorem eqN_trans {ls : List LD} {i j k : Nat} (h : eqN ls i j = true) (g : eqN ls j k = true) : eqN ls i k = true := by
  obtain ⟨h1, h2⟩ := eqN_iff.1 h
  obtain ⟨g1, g2⟩ := eqN_iff.1 g
  exact eqN_iff.2 ⟨by rw [← g1, ← h1], h2.trans g2⟩
theorem eqN_gen {ls : List LD} {i j : Nat} (h : eqN ls i j = true) : genN ls i = genN ls j := by
  have := congrArg Lab.gen (eqN_iff.1 h).1
  unfold genN; exact congrArg BitVec.toNat this
theorem eqN_dead {ls : List LD} {i j : Nat} (h : eqN ls i j = true) : deadL ls i = deadL ls j := (eqN_iff.1 h).2
theorem eqN_kin {ls : List LD} {i m : Nat} (h : eqN ls i m = true) : kinN ls m i = true := by
  unfold eqN eqL at h
  simp only [Bool.and_eq_true] at h
  unfold kinN
  rw [h.1, h.2.2.2.1]; rfl
theorem labels_ok (ls : List LD) (rd : List Bool) (hn : ls.length < 1000) : El.Labels ls.length (candN ls rd) (genN ls) (eqN ls) (diskN ls) (deadL ls) :=
  ⟨eqN_refl ls, fun _ _ => eqN_symm, fun _ _ _ => eqN_trans, fun _ _ => eqN_gen, fun _ _ => eqN_dead, fun _ _ h => (cand_disk h).2, hn⟩
/-- the candidates -/
def candL (ls : List LD) (rd : List Bool) : List Nat := (List.range ls.length).filter (candN ls rd)
theorem maxG_foldl (ls : List LD) : ∀ (l : List Nat) (a : Nat), a ≤ (l.map (genN ls)).foldl max a ∧ (∀ i, i ∈ l → genN ls i ≤ (l.map (genN ls)).foldl max a)
  | [], a => ⟨Nat.le_refl _, by simp⟩
  | x :: l, a => by
    obtain ⟨h1, h2⟩ := maxG_foldl ls l (max a (genN ls x))
    refine ⟨by simp only [List.map_cons, List.foldl_cons]; omega, fun i hi => ?_⟩
    simp only [List.map_cons, List.foldl_cons]
    rcases List.mem_cons.1 hi with rfl | hi
    · omega
    · exact h2 i hi
theorem maxG_mem (ls : List LD) : ∀ (l : List Nat) (a : Nat), (l.map (genN ls)).foldl max a = a ∨ ∃ i, i ∈ l ∧ genN ls i = (l.map (genN ls)).foldl max a
  | [], a => .inl rfl
  | x :: l, a => by
    simp only [List.map_cons, List.foldl_cons]
    rcases maxG_mem ls l (max a (genN ls x)) with h | ⟨i, hi, h⟩
    · rw [h]
      rcases Nat.le_total a (genN ls x) with h' | h'
      · right; exact ⟨x, by simp, by omega⟩
      · left; omega
    · right; exact ⟨i, by simp [hi], h⟩
/-- WHAT choose RETURNS of the candidates -/
theorem choose_best {ls : List LD} {rd : List Bool} (hn : ls.length < 1000) (hne : candL ls rd ≠ []) :
    0 < (gOf ls (maxG ls (candL ls rd)) (candL ls rd)).length ∧ bestE ls rd = some (El.chooseF (diskN ls) (deadL ls) (gOf ls (maxG ls (candL ls rd)) (candL ls rd))) := by
  have L := labels_ok ls rd hn
  have hsort : (candL ls rd).Pairwise (· < ·) := List.pairwise_lt_range.filter _
  have hmem : ∀ i, i ∈ candL ls rd ↔ i < ls.length ∧ candN ls rd i = true := fun i => by unfold candL; rw [List.mem_filter, List.mem_range]
  have G := El.groups_of L.r L.s L.t (fun i => genN ls i == maxG ls (candL ls rd)) (candL ls rd) hsort
  have hform : (candL ls rd).filter (fun i => genN ls i == maxG ls (candL ls rd)) = El.newC ls.length (candN ls rd) (genN ls) (maxG ls (candL ls rd)) := rfl
  rw [hform] at G
  have htop : ∀ i, i < ls.length → candN ls rd i = true → genN ls i ≤ maxG ls (candL ls rd) := fun i hi hc => (maxG_foldl ls (candL ls rd) 0).2 i ((hmem i).2 ⟨hi, hc⟩)
  have hg : gOf ls (maxG ls (candL ls rd)) (candL ls rd) ≠ [] := by
    intro e
    rcases maxG_mem ls (candL ls rd) 0 with h | ⟨i, hi, h⟩
    · obtain ⟨x, hx⟩ := List.exists_mem_of_ne_nil _ hne
      have h2 := htop x ((hmem x).1 hx).1 ((hmem x).1 hx).2
      have h3 := (valid_facts (cand_valid ((hmem x).1 hx).2)).2.2.2.2.1
      have h4 : maxG ls (candL ls rd) = 0 := h
      have h5 : genN ls x = (ldN ls x).1.gen.toNat := rfl
      omega
    · obtain ⟨g, hg, _⟩ := G.cover i (El.mem_newC.2 ⟨((hmem i).1 hi).1, ((hmem i).1 hi).2, h⟩)
      rw [show El.groupsOf (eqN ls) (fun i => genN ls i == maxG ls (candL ls rd)) (candL ls rd) = _ from e] at hg
      cases hg
  exact ⟨List.length_pos_iff.2 hg, El.bestTo_iff (El.choose_best L htop G hg)⟩
theorem best_facts {ls : List LD} {rd : List Bool} {m : Nat} (h : bestE ls rd = some m) : m < ls.length ∧ candN ls rd m = true := by
  have := El.bestTo_some h
  exact ⟨this.lt, this.ok⟩
theorem best_nil {ls : List LD} {rd : List Bool} (h : candL ls rd = []) : bestE ls rd = none := by
  cases hb : bestE ls rd with
  | none => rfl
  | some m =>
    obtain ⟨h1, h2⟩ := best_facts hb
    have : m ∈ candL ls rd := by unfold candL; rw [List.mem_filter, List.mem_range]; exact ⟨h1, h2⟩
    rw [h] at this; cases this
theorem cand_places {ls : List LD} {rd : List Bool} : Places ls (candL ls rd) := fun i hi => by
  unfold candL at hi
  rw [List.mem_filter, List.mem_range] at hi
  exact ⟨hi.1, (cand_disk hi.2).1⟩
/-- what Elect lays in the list of places, one candidate behind the other -/
theorem places_fold {ls : List LD} {rd : List Bool} {m : Nat} (h : bestE ls rd = some m) :
    (candL ls rd).foldl (El.stepA (genN ls) (diskN ls) (curN ls m) (oldN ls m)) (List.replicate (disksN ls m) (-1)) = atE ls rd m := by
  obtain ⟨hm, hc⟩ := best_facts h
  have hv := valid_facts (cand_valid hc)
  have hI := El.Inv.all (cand := candN ls rd) (gen := genN ls) (disk := diskN ls) (c := curN ls m) (o := oldN ls m) (D := disksN ls m) (G := genN ls m) (P := (ldN ls m).1.prev.toNat)
    (fun i hi => by unfold curN at hi; rw [Bool.and_eq_true] at hi; exact eqN_gen hi.2)
    (fun i hi => by unfold oldN at hi; simp only [Bool.and_eq_true, beq_iff_eq] at hi; exact hi.2.2)
    hv.2.2.2.2.2.1 ls.length (fun i hi hci hco => by
      have hk : kinN ls m i = true := by
        rw [Bool.or_eq_true] at hco
        rcases hco with e | e
        · unfold curN at e; rw [Bool.and_eq_true] at e; exact eqN_kin e.2
        · unfold oldN at e; simp only [Bool.and_eq_true] at e; exact e.2.1
      unfold kinN at hk
      rw [Bool.and_eq_true, eqCfg_iff] at hk
      have hvi := valid_facts (cand_valid hci)
      unfold diskN disksN
      rw [← hk.2]
      omega)
  exact hI.eq
end Go.Proofs.Ytpmbbeflgifgaaa
