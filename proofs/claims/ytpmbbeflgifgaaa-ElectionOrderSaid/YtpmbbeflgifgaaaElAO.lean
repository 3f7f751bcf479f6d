/-
  Chapter 31 (election): the plain law of the turned list: the same contents are elected, the same disks are in service.
-/
import Derived.Test.YtpmbbeflgifgaaaElT
import Derived.Test.YtpmbbeflgifgaaaElY
namespace Go.Proofs.Ytpmbbeflgifgaaa.El
set_option linter.unusedVariables false
/-- the place in the first list of what stands at place i of the list that begins at place s -/
def rot (n s i : Nat) : Nat := if i + s < n then i + s else i + s - n
theorem rot_lt {n s i : Nat} (hs : s < n) (hi : i < n) : rot n s i < n := by unfold rot; split <;> omega
theorem rot_inj {n s i j : Nat} (hs : s < n) (hi : i < n) (hj : j < n) (h : rot n s i = rot n s j) : i = j := by unfold rot at h; split at h <;> split at h <;> omega
theorem rot_mod {n s i : Nat} (hs : s < n) (hi : i < n) : (i + s) % n = rot n s i := by
  unfold rot
  split
  · rename_i h; exact Nat.mod_eq_of_lt h
  · rename_i h
    rw [Nat.mod_eq_sub_mod (by omega)]
    exact Nat.mod_eq_of_lt (by omega)
def tor (n s j : Nat) : Nat := if s ≤ j then j - s else j + n - s
theorem tor_lt {n s j : Nat} (hs : s < n) (hj : j < n) : tor n s j < n := by unfold tor; split <;> omega
theorem rot_tor {n s j : Nat} (hs : s < n) (hj : j < n) : rot n s (tor n s j) = j := by unfold rot tor; split <;> split <;> omega
theorem rot_perm {n s : Nat} (hs : s < n) : ((List.range n).map (rot n s)).Perm (List.range n) := by
  have h : (List.range n).map (rot n s) = (List.range n).drop s ++ (List.range n).take s := by
    apply List.ext_getElem
    · simp; omega
    · intro i h1 h2
      simp only [List.length_map, List.length_range] at h1
      rw [List.getElem_map, List.getElem_range, List.getElem_append]
      unfold rot
      split
      · rename_i h3
        rw [dif_pos (by simp; omega), List.getElem_drop, List.getElem_range]; omega
      · rename_i h3
        rw [dif_neg (by simp; omega), List.getElem_take, List.getElem_range]
        simp; omega
  rw [h]
  refine List.perm_append_comm.trans ?_
  rw [List.take_append_drop]
theorem fold_min_lb {disk : Nat → Nat} {x : Nat} : ∀ (l : List Nat) (a : Nat), x ≤ a → (∀ j, j ∈ l → x ≤ disk j) → x ≤ l.foldl (fun m j => min m (disk j)) a
  | [], a, h, _ => h
  | i :: t, a, h, g => by
    rw [List.foldl_cons]
    have := g i (by simp)
    exact fold_min_lb t _ (by omega) fun j hj => g j (by simp [hj])
theorem fold_min_mem {disk : Nat → Nat} : ∀ (l : List Nat) (a j : Nat), j ∈ l → l.foldl (fun m j => min m (disk j)) a ≤ disk j
  | [], _, _, h => by simp at h
  | i :: t, a, j, h => by
    rw [List.foldl_cons]
    rcases List.mem_cons.1 h with rfl | h
    · exact Nat.le_trans (fold_min_le _ _) (by omega)
    · exact fold_min_mem t _ j h
theorem fold_min_some {disk : Nat → Nat} : ∀ (l : List Nat) (a : Nat), l.foldl (fun m j => min m (disk j)) a = a ∨ ∃ j, j ∈ l ∧ l.foldl (fun m j => min m (disk j)) a = disk j
  | [], a => .inl rfl
  | i :: t, a => by
    rw [List.foldl_cons]
    rcases fold_min_some t (min a (disk i)) with h | ⟨j, hj, h⟩
    · rw [h]
      rcases Nat.le_total a (disk i) with h' | h'
      · left; omega
      · right; exact ⟨i, by simp, by omega⟩
    · exact .inr ⟨j, by simp [hj], h⟩
section turned
variable {n s : Nat} {cand cand2 : Nat → Bool} {gen gen2 : Nat → Nat} {eq eq2 : Nat → Nat → Bool} {disk disk2 : Nat → Nat} {dead dead2 : Nat → List Bool}
/-- the second list is the first one, turned -/
structure Turned (n s : Nat) (cand cand2 : Nat → Bool) (gen gen2 : Nat → Nat) (eq eq2 : Nat → Nat → Bool) (disk disk2 : Nat → Nat) (dead dead2 : Nat → List Bool) : Prop where
  tl : s < n
  tc : ∀ i, i < n → cand2 i = cand (rot n s i)
  tg : ∀ i, i < n → gen2 i = gen (rot n s i)
  te : ∀ i j, i < n → j < n → eq2 i j = eq (rot n s i) (rot n s j)
  td : ∀ i, i < n → disk2 i = disk (rot n s i)
  tx : ∀ i, i < n → dead2 i = dead (rot n s i)
theorem turned_votes (T : Turned n s cand cand2 gen gen2 eq eq2 disk disk2 dead dead2) {m : Nat} (hm : m < n) : votesN n cand2 eq2 m = votesN n cand eq (rot n s m) := by
  unfold votesN
  have h1 : (List.range n).filter (fun j => cand2 j && eq2 j m) = (List.range n).filter ((fun j => cand j && eq j (rot n s m)) ∘ rot n s) := by
    refine List.filter_congr fun j hj => ?_
    rw [List.mem_range] at hj
    simp only [Function.comp, T.tc j hj, T.te j m hj hm]
  rw [h1]
  have h2 := ((rot_perm T.tl).filter (fun j => cand j && eq j (rot n s m))).length_eq
  rw [List.filter_map, List.length_map] at h2
  exact h2
theorem turned_low (T : Turned n s cand cand2 gen gen2 eq eq2 disk disk2 dead dead2) {m : Nat} (hm : m < n) : lowN n cand2 eq2 disk2 m = lowN n cand eq disk (rot n s m) := by
  unfold lowN
  rw [fold_low, fold_low]
  refine Nat.le_antisymm ?_ ?_
  · refine fold_min_lb _ _ (fold_min_le _ _) fun j hj => ?_
    rw [List.mem_filter, List.mem_range, Bool.and_eq_true] at hj
    have h1 := tor_lt T.tl hj.1
    have h2 := fold_min_mem (disk := disk2) ((List.range n).filter fun j => cand2 j && eq2 j m) 60 (tor n s j) (by
      rw [List.mem_filter, List.mem_range, T.tc _ h1, T.te _ _ h1 hm, rot_tor T.tl hj.1, Bool.and_eq_true]
      exact ⟨h1, hj.2⟩)
    rw [T.td _ h1, rot_tor T.tl hj.1] at h2
    exact h2
  · refine fold_min_lb _ _ (fold_min_le _ _) fun j hj => ?_
    rw [List.mem_filter, List.mem_range] at hj
    have hj2 := hj.2
    rw [T.tc j hj.1, T.te j m hj.1 hm] at hj2
    rw [T.td j hj.1]
    exact fold_min_mem _ _ _ (by rw [List.mem_filter, List.mem_range]; exact ⟨rot_lt T.tl hj.1, hj2⟩)
theorem turned_out (T : Turned n s cand cand2 gen gen2 eq eq2 disk disk2 dead dead2) {m : Nat} (hm : m < n) : outN n cand2 gen2 eq2 disk2 dead2 m = outN n cand gen eq disk dead (rot n s m) := by
  unfold outN
  rw [Bool.eq_iff_iff, List.all_eq_true, List.all_eq_true]
  constructor
  · intro h j hj
    rw [List.mem_range] at hj
    have h1 := tor_lt T.tl hj
    have := h (tor n s j) (List.mem_range.2 h1)
    rw [T.tc _ h1, T.tg _ h1, T.tg _ hm, T.te _ _ h1 hm, T.tx _ hm, T.td _ h1, rot_tor T.tl hj] at this
    exact this
  · intro h j hj
    rw [List.mem_range] at hj
    have := h (rot n s j) (List.mem_range.2 (rot_lt T.tl hj))
    rw [T.tc _ hj, T.tg _ hj, T.tg _ hm, T.te _ _ hj hm, T.tx _ hm, T.td _ hj]
    exact this
theorem turned_key (T : Turned n s cand cand2 gen gen2 eq eq2 disk disk2 dead dead2) {m : Nat} (hm : m < n) : keyN n cand2 gen2 eq2 disk2 dead2 m = keyN n cand gen eq disk dead (rot n s m) := by
  unfold keyN
  rw [turned_votes T hm, turned_low T hm, turned_out T hm, T.tg m hm]
/-- the lowest disk of those that are equal to a candidate is one of theirs -/
theorem low_is (L : Labels n cand gen eq disk dead) {m : Nat} (hm : m < n) (hc : cand m = true) : ∃ j, j < n ∧ cand j = true ∧ eq j m = true ∧ lowN n cand eq disk m = disk j := by
  have h0 : lowN n cand eq disk m = ((List.range n).filter fun j => cand j && eq j m).foldl (fun m j => min m (disk j)) 60 := by unfold lowN; rw [fold_low]
  have hle : lowN n cand eq disk m ≤ disk m := by
    rw [h0]
    exact fold_min_mem _ _ _ (by rw [List.mem_filter, List.mem_range, hc, L.r]; exact ⟨hm, rfl⟩)
  have hd := L.k m hm hc
  rcases fold_min_some (disk := disk) ((List.range n).filter fun j => cand j && eq j m) 60 with h | ⟨j, hj, h⟩
  · rw [← h0] at h; omega
  · rw [List.mem_filter, List.mem_range, Bool.and_eq_true] at hj
    exact ⟨j, hj.1, hj.2.1, hj.2.2, h0.trans h⟩
/-- with distinct disks, candidates with the same key are equal -/
theorem key_same (L : Labels n cand gen eq disk dead) (hd : ∀ i j, i < n → j < n → cand i = true → cand j = true → disk i = disk j → i = j) {i j : Nat} (hi : i < n) (hj : j < n) (ci : cand i = true) (cj : cand j = true)
    (h : keyN n cand gen eq disk dead i = keyN n cand gen eq disk dead j) : eq i j = true := by
  have hg : gen i = gen j := by
    rcases Nat.lt_trichotomy (gen i) (gen j) with e | e | e
    · have := key_gen L e; omega
    · exact e
    · have := key_gen L e; omega
  have hl : lowN n cand eq disk i = lowN n cand eq disk j := by
    have h1 := votes_le (n := n) (cand := cand) (eq := eq) i
    have h1' := votes_le (n := n) (cand := cand) (eq := eq) j
    have h2 := L.n
    have h3 := low_le (n := n) (cand := cand) (eq := eq) (disk := disk) i
    have h3' := low_le (n := n) (cand := cand) (eq := eq) (disk := disk) j
    unfold keyN at h
    rw [hg] at h
    revert h
    cases outN n cand gen eq disk dead i <;> cases outN n cand gen eq disk dead j <;> simp only [if_true, Bool.false_eq_true, if_false] <;> omega
  obtain ⟨a, ha, hca, hea, hla⟩ := low_is L hi ci
  obtain ⟨b, hb, hcb, heb, hlb⟩ := low_is L hj cj
  have := hd a b ha hb hca hcb (by rw [← hla, ← hlb, hl])
  subst this
  exact L.t _ _ _ (L.s _ _ hea) heb
/-- the elected ones of both lists are equal -/
theorem turned_best (L : Labels n cand gen eq disk dead) (T : Turned n s cand cand2 gen gen2 eq eq2 disk disk2 dead dead2) (hd : ∀ i j, i < n → j < n → cand i = true → cand j = true → disk i = disk j → i = j) :
    (bestTo cand (keyN n cand gen eq disk dead) n = none ∧ bestTo cand2 (keyN n cand2 gen2 eq2 disk2 dead2) n = none) ∨
    ∃ m k, bestTo cand (keyN n cand gen eq disk dead) n = some m ∧ bestTo cand2 (keyN n cand2 gen2 eq2 disk2 dead2) n = some k ∧ m < n ∧ k < n ∧ eq (rot n s k) m = true := by
  cases h : bestTo cand (keyN n cand gen eq disk dead) n with
  | none =>
    left
    refine ⟨rfl, ?_⟩
    cases h2 : bestTo cand2 (keyN n cand2 gen2 eq2 disk2 dead2) n with
    | none => rfl
    | some k =>
      have hb := bestTo_some h2
      have h3 := bestTo_none h (rot n s k) (rot_lt T.tl hb.lt)
      rw [← T.tc k hb.lt, hb.ok] at h3
      cases h3
  | some m =>
    right
    have hb := bestTo_some h
    cases h2 : bestTo cand2 (keyN n cand2 gen2 eq2 disk2 dead2) n with
    | none =>
      have h3 := bestTo_none h2 (tor n s m) (tor_lt T.tl hb.lt)
      rw [T.tc _ (tor_lt T.tl hb.lt), rot_tor T.tl hb.lt, hb.ok] at h3
      cases h3
    | some k =>
      have hk := bestTo_some h2
      have hkr := rot_lt T.tl hk.lt
      have hck : cand (rot n s k) = true := by rw [← T.tc k hk.lt]; exact hk.ok
      refine ⟨m, k, rfl, rfl, hb.lt, hk.lt, key_same L hd hkr hb.lt hck hb.ok ?_⟩
      have h1 := hb.top _ hkr hck
      have h4 := hk.top (tor n s m) (tor_lt T.tl hb.lt) (by rw [T.tc _ (tor_lt T.tl hb.lt), rot_tor T.tl hb.lt]; exact hb.ok)
      rw [turned_key T hk.lt, turned_key T (tor_lt T.tl hb.lt), rot_tor T.tl hb.lt] at h4
      omega
end turned
/-- a place that is unique is found in the turned list, too -/
theorem place_rot {n s : Nat} {p o p2 o2 : Nat → Bool} (hs : s < n) (hp : ∀ i, i < n → p2 i = p (rot n s i)) (ho : ∀ i, i < n → o2 i = o (rot n s i)) (hu : ∀ i j, i < n → j < n → (p i || o i) = true → (p j || o j) = true → i = j) :
    (place p o n = -1 ∧ place p2 o2 n = -1) ∨ ∃ i j : Nat, i < n ∧ j < n ∧ place p o n = i ∧ place p2 o2 n = j ∧ i = rot n s j := by
  have key : ∀ (q q2 : Nat → Bool), (∀ i, i < n → q2 i = q (rot n s i)) → (∀ i j, i < n → j < n → q i = true → q j = true → i = j) → (firstN q n = none ∧ firstN q2 n = none) ∨ ∃ i j : Nat, i < n ∧ j < n ∧ firstN q n = some i ∧ firstN q2 n = some j ∧ i = rot n s j := by
    intro q q2 hq hqu
    cases h : firstN q n with
    | none =>
      left
      refine ⟨rfl, ?_⟩
      cases h2 : firstN q2 n with
      | none => rfl
      | some j =>
        obtain ⟨h3, h4⟩ := firstN_some h2
        rw [hq j h3, firstN_none h _ (rot_lt hs h3)] at h4
        cases h4
    | some i =>
      right
      obtain ⟨h3, h4⟩ := firstN_some h
      cases h2 : firstN q2 n with
      | none =>
        have := firstN_none h2 (tor n s i) (tor_lt hs h3)
        rw [hq _ (tor_lt hs h3), rot_tor hs h3, h4] at this
        cases this
      | some j =>
        obtain ⟨h5, h6⟩ := firstN_some h2
        rw [hq j h5] at h6
        exact ⟨i, j, h3, h5, rfl, rfl, hqu _ _ h3 (rot_lt hs h5) h4 h6⟩
  unfold place
  rcases key p p2 hp (fun i j hi hj a b => hu i j hi hj (by rw [a]; rfl) (by rw [b]; rfl)) with ⟨h1, h2⟩ | ⟨i, j, hi, hj, h1, h2, h3⟩
  · rw [h1, h2]
    simp only
    rcases key o o2 ho (fun i j hi hj a b => hu i j hi hj (by rw [a]; simp) (by rw [b]; simp)) with ⟨g1, g2⟩ | ⟨i, j, hi, hj, g1, g2, g3⟩
    · left; rw [g1, g2]; exact ⟨rfl, rfl⟩
    · right; rw [g1, g2]; exact ⟨i, j, hi, hj, rfl, rfl, g3⟩
  · right; rw [h1, h2]; exact ⟨i, j, hi, hj, rfl, rfl, h3⟩
end Go.Proofs.Ytpmbbeflgifgaaa.El
namespace Go.Proofs.Ytpmbbeflgifgaaa
open Go.RowKit
set_option linter.unusedVariables false
/-- the list that begins at place s -/
def turnL {α : Type} (l : List α) (s : Nat) : List α := l.drop s ++ l.take s
theorem turnL_len {α : Type} {l : List α} {s : Nat} : (turnL l s).length = l.length := by unfold turnL; rw [List.length_append, List.length_drop, List.length_take]; omega
theorem turnL_get {α : Type} {l : List α} {s i : Nat} {d : α} (hs : s < l.length) (hi : i < l.length) : (turnL l s).getD i d = l.getD (El.rot l.length s i) d := by
  have hr := El.rot_lt hs hi
  rw [getD_in (by rw [turnL_len]; exact hi), getD_in hr]
  unfold turnL
  rw [List.getElem_append]
  split
  · rename_i h
    rw [List.length_drop] at h
    rw [List.getElem_drop]
    congr 1
    unfold El.rot
    rw [if_pos (by omega)]; omega
  · rename_i h
    rw [List.length_drop] at h
    rw [List.getElem_take]
    congr 1
    unfold El.rot
    rw [if_neg (by omega), List.length_drop]; omega
section
variable {ls : List LD} {rd : List Bool} {s : Nat}
theorem turn_ld {i : Nat} (hs : s < ls.length) (hi : i < ls.length) : ldN (turnL ls s) i = ldN ls (El.rot ls.length s i) := turnL_get hs hi
theorem turn_turned (hs : s < ls.length) (hr : rd.length = ls.length) :
    El.Turned ls.length s (candN ls rd) (candN (turnL ls s) (turnL rd s)) (genN ls) (genN (turnL ls s)) (eqN ls) (eqN (turnL ls s)) (diskN ls) (diskN (turnL ls s)) (deadL ls) (deadL (turnL ls s)) where
  tl := hs
  tc i hi := by unfold candN; rw [turn_ld hs hi, turnL_get (by rw [hr]; exact hs) (by rw [hr]; exact hi), hr]
  tg i hi := by unfold genN; rw [turn_ld hs hi]
  te i j hi hj := by unfold eqN; rw [turn_ld hs hi, turn_ld hs hj]
  td i hi := by unfold diskN; rw [turn_ld hs hi]
  tx i hi := by unfold deadL; rw [turn_ld hs hi]
theorem cnt_map {D : Nat} {f g : Nat → Int} (h : ∀ d, d < D → (f d < 0 ↔ g d < 0)) : cntN ((List.range D).map f) = cntN ((List.range D).map g) := by
  unfold cntN
  rw [List.filter_map, List.filter_map, List.length_map, List.length_map]
  congr 1
  refine List.filter_congr fun d hd => ?_
  exact decide_eq_decide.2 (h d (List.mem_range.1 hd))
/-- what is said of the places of both lists at a disk -/
def PairAt (n s : Nat) (a b : Int) : Prop := (a = -1 ∧ b = -1) ∨ ∃ i j : Nat, i < n ∧ j < n ∧ a = i ∧ b = j ∧ i = El.rot n s j
theorem turn_places (hs : s < ls.length) (hr : rd.length = ls.length) (hd : ∀ i j, i < ls.length → j < ls.length → (ldN ls i).1.disk = (ldN ls j).1.disk → i = j) {m k : Nat} (hk : k < ls.length) (he : eqN ls (El.rot ls.length s k) m = true) :
    disksN (turnL ls s) k = disksN ls m ∧ ∀ d, d < disksN ls m → PairAt ls.length s ((atE ls rd m).getD d 0) ((atE (turnL ls s) (turnL rd s) k).getD d 0) := by
  obtain ⟨h1, h2⟩ := eqN_iff.1 he
  have T := turn_turned (ls := ls) (rd := rd) hs hr
  have hc : (ldN ls (El.rot ls.length s k)).1.c = (ldN ls m).1.c := by rw [← h1]
  have hpv : (ldN ls (El.rot ls.length s k)).1.prev = (ldN ls m).1.prev := by rw [← h1]
  have har : (ldN ls (El.rot ls.length s k)).1.array = (ldN ls m).1.array := by rw [← h1]
  have hD : disksN (turnL ls s) k = disksN ls m := by unfold disksN; rw [turn_ld hs hk, hc]
  refine ⟨hD, fun d hdl => ?_⟩
  have e1 : (atE ls rd m).getD d 0 = El.place (fun i => candN ls rd i && (diskN ls i == d && curN ls m i)) (fun i => candN ls rd i && (diskN ls i == d && oldN ls m i)) ls.length := by
    rw [getD_in (by rw [atE_len]; exact hdl)]; simp only [atE, List.getElem_map, List.getElem_range]
  have e2 : (atE (turnL ls s) (turnL rd s) k).getD d 0 = El.place (fun i => candN (turnL ls s) (turnL rd s) i && (diskN (turnL ls s) i == d && curN (turnL ls s) k i)) (fun i => candN (turnL ls s) (turnL rd s) i && (diskN (turnL ls s) i == d && oldN (turnL ls s) k i)) ls.length := by
    rw [getD_in (by rw [atE_len, hD]; exact hdl)]; simp only [atE, List.getElem_map, List.getElem_range, turnL_len]
  rw [e1, e2]
  refine El.place_rot hs (fun i hi => ?_) (fun i hi => ?_) (fun i j hi hj a b => ?_)
  · have hx : eqN ls (El.rot ls.length s i) (El.rot ls.length s k) = eqN ls (El.rot ls.length s i) m := by
      rw [Bool.eq_iff_iff]
      exact ⟨fun e => eqN_trans e he, fun e => eqN_trans e (eqN_symm he)⟩
    unfold curN
    rw [T.tc i hi, T.td i hi, T.tx k hk, T.te i k hi hk, eqN_dead he, hx]
  · unfold oldN kinN
    rw [T.tc i hi, T.td i hi, T.tx k hk, T.tg i hi, eqN_dead he, turn_ld hs hi, turn_ld hs hk, har, hc, hpv]
  · have key : ∀ i, ((candN ls rd i && (diskN ls i == d && curN ls m i)) || (candN ls rd i && (diskN ls i == d && oldN ls m i))) = true → candN ls rd i = true ∧ diskN ls i = d := by
      intro i h
      simp only [Bool.or_eq_true, Bool.and_eq_true, beq_iff_eq] at h
      rcases h with h | h <;> exact ⟨h.1, h.2.1⟩
    obtain ⟨a1, a2⟩ := key i a
    obtain ⟨b1, b2⟩ := key j b
    have a3 := (cand_disk a1).1
    have b3 := (cand_disk b1).1
    refine hd i j hi hj ?_
    unfold diskN at a2 b2
    omega
/-- WHAT ElectionOrder ASKS -/
theorem turn_law (hs : s < ls.length) (hn : ls.length < 1000) (hr : rd.length = ls.length) (hd : ∀ i j, i < ls.length → j < ls.length → (ldN ls i).1.disk = (ldN ls j).1.disk → i = j) :
    errE (turnL ls s) (turnL rd s) = errE ls rd ∧ eqL (labE ls rd).1 (labE (turnL ls s) (turnL rd s)).1 (labE ls rd).2 (labE (turnL ls s) (turnL rd s)).2 = true ∧
    (placesE (turnL ls s) (turnL rd s)).length = (placesE ls rd).length ∧ ∀ d, d < (placesE ls rd).length → PairAt ls.length s ((placesE ls rd).getD d 0) ((placesE (turnL ls s) (turnL rd s)).getD d 0) := by
  have T := turn_turned (ls := ls) (rd := rd) hs hr
  have L := labels_ok ls rd hn
  have hl2 : (turnL ls s).length = (turnL rd s).length := by rw [turnL_len, turnL_len, hr]
  have hdd : ∀ i j, i < ls.length → j < ls.length → candN ls rd i = true → candN ls rd j = true → diskN ls i = diskN ls j → i = j := by
    intro i j hi hj ci cj e
    have a3 := (cand_disk ci).1
    have b3 := (cand_disk cj).1
    refine hd i j hi hj ?_
    unfold diskN at e
    omega
  have hB := El.turned_best L T hdd
  have hb2 : bestE (turnL ls s) (turnL rd s) = El.bestTo (candN (turnL ls s) (turnL rd s)) (El.keyN ls.length (candN (turnL ls s) (turnL rd s)) (genN (turnL ls s)) (eqN (turnL ls s)) (diskN (turnL ls s)) (deadL (turnL ls s))) ls.length := by
    unfold bestE keyE; rw [turnL_len]
  rcases hB with ⟨h1, h2⟩ | ⟨m, k, h1, h2, hm, hk, he⟩
  · have b1 : bestE ls rd = none := h1
    have b2 : bestE (turnL ls s) (turnL rd s) = none := hb2.trans h2
    have f1 := errE_none hr.symm b1
    have f2 := errE_none hl2 b2
    obtain ⟨x1, y1⟩ := bad_lab (ls := ls) (rd := rd) (by rw [f1]; decide)
    obtain ⟨x2, y2⟩ := bad_lab (ls := turnL ls s) (rd := turnL rd s) (by rw [f2]; decide)
    rw [f1, f2, x1, x2, y1, y2]
    exact ⟨rfl, eqL_iff.2 ⟨rfl, rfl⟩, rfl, fun d hd => absurd hd (Nat.not_lt_zero d)⟩
  · have b1 : bestE ls rd = some m := h1
    have b2 : bestE (turnL ls s) (turnL rd s) = some k := hb2.trans h2
    obtain ⟨hD, hP⟩ := turn_places (rd := rd) hs hr hd hk he
    have hcnt : cntN (atE (turnL ls s) (turnL rd s) k) = cntN (atE ls rd m) := by
      unfold atE
      rw [hD]
      refine cnt_map fun d hdl => ?_
      have := hP d hdl
      have g1 : (atE ls rd m).getD d 0 = El.place (fun i => candN ls rd i && (diskN ls i == d && curN ls m i)) (fun i => candN ls rd i && (diskN ls i == d && oldN ls m i)) ls.length := by
        rw [getD_in (by rw [atE_len]; exact hdl)]; simp only [atE, List.getElem_map, List.getElem_range]
      have g2 : (atE (turnL ls s) (turnL rd s) k).getD d 0 = El.place (fun i => candN (turnL ls s) (turnL rd s) i && (diskN (turnL ls s) i == d && curN (turnL ls s) k i)) (fun i => candN (turnL ls s) (turnL rd s) i && (diskN (turnL ls s) i == d && oldN (turnL ls s) k i)) (turnL ls s).length := by
        rw [getD_in (by rw [atE_len, hD]; exact hdl)]; simp only [atE, List.getElem_map, List.getElem_range]
      rw [g1, g2] at this
      rcases this with ⟨e1, e2⟩ | ⟨i, j, _, _, e1, e2, _⟩
      · rw [e1, e2]
      · rw [e1, e2]; omega
    have f1 := errE_some hr.symm b1
    have f2 := errE_some hl2 b2
    rw [hcnt] at f2
    by_cases h3 : 3 < cntN (atE ls rd m)
    · rw [if_pos h3] at f1 f2
      obtain ⟨x1, y1⟩ := bad_lab (ls := ls) (rd := rd) (by rw [f1]; decide)
      obtain ⟨x2, y2⟩ := bad_lab (ls := turnL ls s) (rd := turnL rd s) (by rw [f2]; decide)
      rw [f1, f2, x1, x2, y1, y2]
      exact ⟨rfl, eqL_iff.2 ⟨rfl, rfl⟩, rfl, fun d hd => absurd hd (Nat.not_lt_zero d)⟩
    · rw [if_neg h3] at f1 f2
      obtain ⟨x1, y1⟩ := good_lab f1 b1
      obtain ⟨x2, y2⟩ := good_lab f2 b2
      rw [f1, f2, x1, x2, y1, y2, atE_len, atE_len, hD]
      refine ⟨rfl, ?_, rfl, hP⟩
      have := eqN_symm he
      unfold eqN at this
      rw [turn_ld hs hk]; exact this
end
end Go.Proofs.Ytpmbbeflgifgaaa
