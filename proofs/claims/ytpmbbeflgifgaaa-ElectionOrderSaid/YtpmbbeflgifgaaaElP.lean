/-
  Chapter 31 (election): the plain law: the first greatest candidate, and what choose returns. No program is named here.
-/
namespace Go.Proofs.Ytpmbbeflgifgaaa.El
set_option linter.unusedVariables false
/-- the first place, of those below n that stand, with the greatest key -/
def bestTo (cand : Nat → Bool) (key : Nat → Nat) : Nat → Option Nat
  | 0 => none
  | k + 1 => match bestTo cand key k with
    | none => if cand k then some k else none
    | some b => if cand k && decide (key b < key k) then some k else some b
structure IsBest (cand : Nat → Bool) (key : Nat → Nat) (n m : Nat) : Prop where
  lt : m < n
  ok : cand m = true
  top : ∀ j, j < n → cand j = true → key j ≤ key m
  first : ∀ j, j < m → cand j = true → key j < key m
theorem bestTo_none {cand : Nat → Bool} {key : Nat → Nat} {n : Nat} (h : bestTo cand key n = none) : ∀ j, j < n → cand j = false := by
  induction n with
  | zero => intro j hj; omega
  | succ k ih =>
    rw [bestTo] at h
    cases hb : bestTo cand key k with
    | none =>
      rw [hb] at h
      simp only at h
      intro j hj
      by_cases e : j = k
      · subst e; cases hc : cand j <;> simp [hc] at h ⊢
      · exact ih hb j (by omega)
    | some b => rw [hb] at h; simp only at h; split at h <;> cases h
theorem bestTo_some {cand : Nat → Bool} {key : Nat → Nat} {n m : Nat} (h : bestTo cand key n = some m) : IsBest cand key n m := by
  induction n generalizing m with
  | zero => cases h
  | succ k ih =>
    rw [bestTo] at h
    cases hb : bestTo cand key k with
    | none =>
      rw [hb] at h
      have hn := bestTo_none hb
      simp only at h
      split at h
      · rename_i hc
        obtain rfl := Option.some.inj h
        refine ⟨by omega, hc, fun j hj hcj => ?_, fun j hj hcj => by rw [hn j (by omega)] at hcj; cases hcj⟩
        by_cases e : j = k
        · rw [e]; exact Nat.le_refl _
        · rw [hn j (by omega)] at hcj; cases hcj
      · cases h
    | some b =>
      rw [hb] at h
      have hi := ih hb
      simp only at h
      split at h
      · rename_i hc
        rw [Bool.and_eq_true, decide_eq_true_eq] at hc
        obtain rfl := Option.some.inj h
        refine ⟨by omega, hc.1, fun j hj hcj => ?_, fun j hj hcj => Nat.lt_of_le_of_lt (hi.top j (by omega) hcj) hc.2⟩
        by_cases e : j = k
        · rw [e]; exact Nat.le_refl _
        · exact Nat.le_trans (hi.top j (by omega) hcj) (by omega)
      · rename_i hc
        obtain rfl := Option.some.inj h
        refine ⟨by have := hi.lt; omega, hi.ok, fun j hj hcj => ?_, hi.first⟩
        by_cases e : j = k
        · subst e
          rw [hcj, Bool.true_and, decide_eq_true_eq] at hc
          omega
        · exact hi.top j (by omega) hcj
theorem IsBest.eq {cand : Nat → Bool} {key : Nat → Nat} {n m k : Nat} (h : IsBest cand key n m) (g : IsBest cand key n k) : m = k := by
  rcases Nat.lt_trichotomy m k with e | e | e
  · have := g.first m e h.ok
    have := h.top k g.lt g.ok
    omega
  · exact e
  · have := h.first k e g.ok
    have := g.top m h.lt h.ok
    omega
theorem bestTo_iff {cand : Nat → Bool} {key : Nat → Nat} {n m : Nat} (h : IsBest cand key n m) : bestTo cand key n = some m := by
  cases hb : bestTo cand key n with
  | none => have := bestTo_none hb m h.lt; rw [h.ok] at this; cases this
  | some k => rw [(bestTo_some hb).eq h]
section groups
variable (eq : Nat → Nat → Bool)
def addG (gs : List (List Nat)) (i : Nat) : List (List Nat) :=
  match gs.findIdx? (fun g => eq (g.headD 0) i) with
  | some k => gs.set k (gs.getD k [] ++ [i])
  | none => gs ++ [[i]]
def groupsOf (new : Nat → Bool) (cs : List Nat) : List (List Nat) := cs.foldl (fun gs i => if new i then addG eq gs i else gs) []
structure Groups (C : List Nat) (gs : List (List Nat)) : Prop where
  ne : ∀ g, g ∈ gs → g ≠ []
  form : ∀ g, g ∈ gs → g = C.filter (fun j => eq (g.headD 0) j)
  cover : ∀ i, i ∈ C → ∃ g, g ∈ gs ∧ eq (g.headD 0) i = true
  heads : gs.Pairwise fun a b => a.headD 0 < b.headD 0 ∧ eq (a.headD 0) (b.headD 0) = false
end groups
theorem headD_append {l : List Nat} (h : l ≠ []) (i : Nat) : (l ++ [i]).headD 0 = l.headD 0 := by
  cases l with
  | nil => exact absurd rfl h
  | cons a t => rfl
theorem headD_mem {l : List Nat} (h : l ≠ []) : l.headD 0 ∈ l := by
  cases l with
  | nil => exact absurd rfl h
  | cons a t => simp
theorem Groups.add {eq : Nat → Nat → Bool} (hr : ∀ i, eq i i = true) (hs : ∀ i j, eq i j = true → eq j i = true) (ht : ∀ i j k, eq i j = true → eq j k = true → eq i k = true)
    {C : List Nat} {gs : List (List Nat)} (h : Groups eq C gs) (i : Nat) (hi : ∀ j, j ∈ C → j < i) : Groups eq (C ++ [i]) (addG eq gs i) := by
  unfold addG
  have hsub : ∀ g, g ∈ gs → g.headD 0 ∈ C := fun g hg => by
    have := headD_mem (h.ne g hg)
    rw [h.form g hg, List.mem_filter] at this
    rw [← h.form g hg] at this
    exact this.1
  cases hf : gs.findIdx? (fun g => eq (g.headD 0) i) with
  | none =>
    simp only
    rw [List.findIdx?_eq_none_iff] at hf
    refine ⟨?_, ?_, ?_, ?_⟩
    · intro g hg
      rw [List.mem_append, List.mem_singleton] at hg
      rcases hg with hg | rfl
      · exact h.ne g hg
      · simp
    · intro g hg
      rw [List.mem_append, List.mem_singleton] at hg
      rcases hg with hg | rfl
      · rw [List.filter_append, ← h.form g hg]
        simp only [List.filter_cons, List.filter_nil, hf g hg, Bool.false_eq_true, if_false, List.append_nil]
      · rw [List.filter_append]
        have : C.filter (fun j => eq i j) = [] := by
          rw [List.filter_eq_nil_iff]
          intro j hj hij
          obtain ⟨g, hg, hgj⟩ := h.cover j hj
          have := hf g hg
          rw [ht _ _ _ hgj (hs _ _ hij)] at this
          cases this
        simp [this, hr]
    · intro j hj
      rw [List.mem_append, List.mem_singleton] at hj
      rcases hj with hj | rfl
      · obtain ⟨g, hg, hgj⟩ := h.cover j hj
        exact ⟨g, List.mem_append.2 (.inl hg), hgj⟩
      · exact ⟨[j], by simp, hr j⟩
    · rw [List.pairwise_append]
      refine ⟨h.heads, by simp, fun a ha b hb => ?_⟩
      rw [List.mem_singleton] at hb
      subst hb
      exact ⟨hi _ (hsub a ha), hf a ha⟩
  | some k =>
    simp only
    rw [List.findIdx?_eq_some_iff_getElem] at hf
    obtain ⟨hk, hke, hkf⟩ := hf
    have hgk : gs.getD k [] = gs[k] := by rw [List.getD_eq_getElem?_getD, List.getElem?_eq_getElem hk]; rfl
    rw [hgk]
    have hnk := h.ne _ (List.getElem_mem hk)
    have hne : ∀ (a : Nat) (ha : a < gs.length), a ≠ k → eq (gs[a].headD 0) i = false := by
      intro a ha hak
      cases hc : eq (gs[a].headD 0) i with
      | false => rfl
      | true =>
        exfalso
        have hp := List.pairwise_iff_getElem.1 h.heads
        have := ht _ _ _ hc (hs _ _ hke)
        rcases Nat.lt_or_gt_of_ne hak with e | e
        · have h2 := (hp a k ha hk e).2; rw [h2] at this; cases this
        · have h2 := (hp k a hk ha e).2; rw [hs _ _ this] at h2; cases h2
    have key : ∀ (a : Nat) (ha : a < (gs.set k (gs[k] ++ [i])).length), ∃ (ha' : a < gs.length), ((gs.set k (gs[k] ++ [i]))[a]'ha).headD 0 = gs[a].headD 0 ∧ (gs.set k (gs[k] ++ [i]))[a]'ha = if a = k then gs[k] ++ [i] else gs[a] := by
      intro a ha
      have ha' : a < gs.length := by simpa using ha
      refine ⟨ha', ?_, ?_⟩
      · rw [List.getElem_set]
        by_cases e : k = a
        · subst e; rw [if_pos rfl, headD_append hnk]
        · rw [if_neg e]
      · rw [List.getElem_set]
        by_cases e : k = a
        · rw [if_pos e, if_pos e.symm]
        · rw [if_neg e, if_neg (Ne.symm e)]
    refine ⟨?_, ?_, ?_, ?_⟩
    · intro g hg
      obtain ⟨a, ha, rfl⟩ := List.getElem_of_mem hg
      obtain ⟨ha', h1, h2⟩ := key a ha
      rw [h2]
      split
      · simp
      · exact h.ne _ (List.getElem_mem ha')
    · intro g hg
      obtain ⟨a, ha, rfl⟩ := List.getElem_of_mem hg
      obtain ⟨ha', h1, h2⟩ := key a ha
      rw [h1, h2, List.filter_append]
      by_cases e : a = k
      · subst e
        rw [if_pos rfl, ← h.form _ (List.getElem_mem ha')]
        simp only [List.filter_cons, List.filter_nil, hke, if_true]
      · rw [if_neg e, ← h.form _ (List.getElem_mem ha')]
        simp only [List.filter_cons, List.filter_nil, hne a ha' e, Bool.false_eq_true, if_false, List.append_nil]
    · intro j hj
      rw [List.mem_append, List.mem_singleton] at hj
      rcases hj with hj | rfl
      · obtain ⟨g, hg, hgj⟩ := h.cover j hj
        obtain ⟨a, ha, rfl⟩ := List.getElem_of_mem hg
        obtain ⟨_, h1, _⟩ := key a (by simpa using ha)
        exact ⟨_, List.getElem_mem (by simpa using ha), by rw [h1]; exact hgj⟩
      · obtain ⟨_, h1, _⟩ := key k (by simpa using hk)
        exact ⟨_, List.getElem_mem (by simpa using hk), by rw [h1]; exact hke⟩
    · rw [List.pairwise_iff_getElem]
      intro a b ha hb hab
      obtain ⟨ha', h1, _⟩ := key a ha
      obtain ⟨hb', h2, _⟩ := key b hb
      rw [h1, h2]
      exact List.pairwise_iff_getElem.1 h.heads a b ha' hb' hab
theorem groups_of {eq : Nat → Nat → Bool} (hr : ∀ i, eq i i = true) (hs : ∀ i j, eq i j = true → eq j i = true) (ht : ∀ i j k, eq i j = true → eq j k = true → eq i k = true)
    (new : Nat → Bool) (cs : List Nat) (hp : cs.Pairwise (· < ·)) : Groups eq (cs.filter new) (groupsOf eq new cs) := by
  have key : ∀ (m : Nat), m ≤ cs.length → Groups eq ((cs.take m).filter new) (groupsOf eq new (cs.take m)) := by
    intro m
    induction m with
    | zero => intro _; exact ⟨by simp [groupsOf], by simp [groupsOf], by simp, by simp [groupsOf]⟩
    | succ m ih =>
      intro hm
      have h := ih (by omega)
      have hlt : m < cs.length := by omega
      rw [List.take_succ_eq_append_getElem hlt]
      unfold groupsOf at h ⊢
      rw [List.foldl_append, List.filter_append]
      simp only [List.foldl_cons, List.foldl_nil]
      by_cases hn : new cs[m] = true
      · rw [if_pos hn]
        have := h.add hr hs ht cs[m] (fun j hj => by
          rw [List.mem_filter] at hj
          obtain ⟨a, ha, rfl⟩ := List.getElem_of_mem hj.1
          rw [List.length_take] at ha
          rw [List.getElem_take]
          exact List.pairwise_iff_getElem.1 hp a m (by omega) hlt (by omega))
        simpa [hn] using this
      · rw [if_neg hn]
        simpa [hn] using h
  have := key cs.length (Nat.le_refl _)
  rwa [List.take_length] at this
section choose
variable (disk : Nat → Nat) (dead : Nat → List Bool)
def lowG : List Nat → Nat
  | [] => 0
  | i :: t => t.foldl (fun m j => min m (disk j)) (disk i)
def outG (all : List (List Nat)) (s : List Nat) : Bool := all.all fun o => o.headD 0 == s.headD 0 || o.all fun i => (dead (s.headD 0)).getD (disk i) false
def amongG (all : List (List Nat)) : List (List Nat) := if all.filter (outG disk dead all) = [] then all else all.filter (outG disk dead all)
def betterG (s b : List Nat) : Bool := decide (b.length < s.length) || (s.length == b.length && decide (lowG disk s < lowG disk b))
def pickG : List (List Nat) → List Nat
  | [] => []
  | b :: t => t.foldl (fun b s => if betterG disk s b then s else b) b
def chooseF (all : List (List Nat)) : Nat := (pickG disk (amongG disk dead all)).headD 0
end choose
theorem betterG_iff {disk : Nat → Nat} {s b : List Nat} (hs : lowG disk s ≤ 60) (hb : lowG disk b ≤ 60) :
    betterG disk s b = true ↔ b.length * 1000 + (60 - lowG disk b) < s.length * 1000 + (60 - lowG disk s) := by
  unfold betterG
  simp only [Bool.or_eq_true, Bool.and_eq_true, decide_eq_true_eq, beq_iff_eq]
  omega
/-- the first greatest one of a list -/
def FirstTop (k : List Nat → Nat) (L : List (List Nat)) (r : List Nat) : Prop := ∃ A B, L = A ++ r :: B ∧ (∀ a, a ∈ A → k a < k r) ∧ ∀ b, b ∈ B → k b ≤ k r
theorem pick_fold {k : List Nat → Nat} {bet : List Nat → List Nat → Bool} {ok : List Nat → Prop} (hbet : ∀ s b, ok s → ok b → (bet s b = true ↔ k b < k s)) : ∀ (t : List (List Nat)) (b : List Nat), ok b → (∀ s, s ∈ t → ok s) →
    FirstTop k (b :: t) (t.foldl (fun b s => if bet s b then s else b) b)
  | [], b, _, _ => ⟨[], [], rfl, by simp, by simp⟩
  | s :: t, b, hb, ht => by
    rw [List.foldl_cons]
    have hs := ht s (by simp)
    by_cases h : bet s b = true
    · rw [if_pos h]
      rw [hbet _ _ hs hb] at h
      have ih := pick_fold hbet t s hs fun x hx => ht x (by simp [hx])
      generalize t.foldl (fun b s => if bet s b then s else b) s = r at *
      obtain ⟨A, B, h1, h2, h3⟩ := ih
      refine ⟨b :: A, B, by rw [h1]; rfl, fun a ha => ?_, h3⟩
      rcases List.mem_cons.1 ha with e | ha
      · rw [e]
        cases A with
        | nil => injection h1 with h4 h5; rw [← h4]; exact h
        | cons a' A' =>
          injection h1 with h4 h5
          have := h2 a' (by simp)
          rw [← h4] at this
          exact Nat.lt_trans h this
      · exact h2 a ha
    · rw [if_neg h]
      rw [hbet _ _ hs hb] at h
      have ih := pick_fold hbet t b hb fun x hx => ht x (by simp [hx])
      generalize t.foldl (fun b s => if bet s b then s else b) b = r at *
      obtain ⟨A, B, h1, h2, h3⟩ := ih
      cases A with
      | nil =>
        injection h1 with h4 h5
        refine ⟨[], s :: t, by rw [← h4]; rfl, by simp, fun x hx => ?_⟩
        rcases List.mem_cons.1 hx with e | hx
        · rw [e, ← h4]; exact Nat.le_of_not_lt h
        · rw [h5] at hx; exact h3 x hx
      | cons a' A' =>
        injection h1 with h4 h5
        have hb' := h2 a' (by simp)
        rw [← h4] at hb'
        refine ⟨b :: s :: A', B, by rw [h5]; rfl, fun a ha => ?_, h3⟩
        rcases List.mem_cons.1 ha with e | ha
        · rw [e]; exact hb'
        · rcases List.mem_cons.1 ha with e | ha
          · rw [e]; exact Nat.lt_of_le_of_lt (Nat.le_of_not_lt h) hb'
          · exact h2 a (by simp [ha])
def gkey (disk : Nat → Nat) (g : List Nat) : Nat := g.length * 1000 + (60 - lowG disk g)
theorem pick_top {disk : Nat → Nat} {L : List (List Nat)} (hL : L ≠ []) (hl : ∀ s, s ∈ L → lowG disk s ≤ 60) : FirstTop (gkey disk) L (pickG disk L) := by
  cases L with
  | nil => exact absurd rfl hL
  | cons b t =>
    have hbet : ∀ s b, lowG disk s ≤ 60 → lowG disk b ≤ 60 → (betterG disk s b = true ↔ gkey disk b < gkey disk s) := fun s b hs hb => by
      unfold gkey; exact betterG_iff hs hb
    have := pick_fold (k := gkey disk) (bet := betterG disk) (ok := fun s => lowG disk s ≤ 60) hbet t b (hl b (by simp)) fun s hs => hl s (by simp [hs])
    exact this
theorem fold_low {disk : Nat → Nat} (p : Nat → Bool) : ∀ (l : List Nat) (a : Nat), l.foldl (fun m j => if p j && decide (disk j < m) then disk j else m) a = (l.filter p).foldl (fun m j => min m (disk j)) a
  | [], a => rfl
  | i :: t, a => by
    rw [List.foldl_cons, List.filter_cons]
    by_cases h : p i = true
    · rw [if_pos h, List.foldl_cons, fold_low p t]
      congr 1
      rw [h, Bool.true_and]
      by_cases h2 : disk i < a
      · rw [if_pos (decide_eq_true h2)]; omega
      · rw [if_neg (by simpa using h2)]; omega
    · rw [if_neg h, fold_low p t]
      congr 1
      have : p i = false := by simpa using h
      rw [this]
      simp
theorem low_of {disk : Nat → Nat} {g : List Nat} (h : g ≠ []) (hd : ∀ i, i ∈ g → disk i ≤ 60) : g.foldl (fun m j => min m (disk j)) 60 = lowG disk g := by
  cases g with
  | nil => exact absurd rfl h
  | cons i t =>
    rw [List.foldl_cons, lowG]
    congr 1
    have := hd i (by simp)
    omega
theorem fold_min_le {disk : Nat → Nat} : ∀ (l : List Nat) (a : Nat), l.foldl (fun m j => min m (disk j)) a ≤ a
  | [], a => Nat.le_refl a
  | i :: t, a => by rw [List.foldl_cons]; exact Nat.le_trans (fold_min_le t _) (by omega)
section keys
variable (n : Nat) (cand : Nat → Bool) (gen : Nat → Nat) (eq : Nat → Nat → Bool) (disk : Nat → Nat) (dead : Nat → List Bool)
def outN (i : Nat) : Bool := (List.range n).all fun j => !(cand j && (gen j == gen i && !eq j i)) || (dead i).getD (disk j) false
def votesN (i : Nat) : Nat := ((List.range n).filter fun j => cand j && eq j i).length
def lowN (i : Nat) : Nat := (List.range n).foldl (fun m j => if (cand j && eq j i) && decide (disk j < m) then disk j else m) 60
def keyN (i : Nat) : Nat := ((gen i * 2 + if outN n cand gen eq disk dead i then 1 else 0) * 1000 + votesN n cand eq i) * 1000 + (60 - lowN n cand eq disk i)
end keys
/-- what is known of the labels -/
structure Labels (n : Nat) (cand : Nat → Bool) (gen : Nat → Nat) (eq : Nat → Nat → Bool) (disk : Nat → Nat) (dead : Nat → List Bool) : Prop where
  r : ∀ i, eq i i = true
  s : ∀ i j, eq i j = true → eq j i = true
  t : ∀ i j k, eq i j = true → eq j k = true → eq i k = true
  g : ∀ i j, eq i j = true → gen i = gen j
  d : ∀ i j, eq i j = true → dead i = dead j
  k : ∀ i, i < n → cand i = true → disk i < 60
  n : n < 1000
section law
variable {n : Nat} {cand : Nat → Bool} {gen : Nat → Nat} {eq : Nat → Nat → Bool} {disk : Nat → Nat} {dead : Nat → List Bool}
theorem Labels.eqs (L : Labels n cand gen eq disk dead) {i j : Nat} (h : eq i j = true) (x : Nat) : eq x i = eq x j := by
  rw [Bool.eq_iff_iff]
  exact ⟨fun e => L.t _ _ _ e h, fun e => L.t _ _ _ e (L.s _ _ h)⟩
theorem Labels.key_eq (L : Labels n cand gen eq disk dead) {i j : Nat} (h : eq i j = true) : keyN n cand gen eq disk dead i = keyN n cand gen eq disk dead j := by
  have h1 : votesN n cand eq i = votesN n cand eq j := by unfold votesN; congr 2; funext x; rw [L.eqs h]
  have h2 : lowN n cand eq disk i = lowN n cand eq disk j := by unfold lowN; congr 1; funext m x; rw [L.eqs h]
  have h3 : outN n cand gen eq disk dead i = outN n cand gen eq disk dead j := by unfold outN; congr 1; funext x; rw [L.eqs h, L.g _ _ h, L.d _ _ h]
  unfold keyN
  rw [h1, h2, h3, L.g _ _ h]
theorem votes_le (i : Nat) : votesN n cand eq i ≤ n := by
  unfold votesN
  exact Nat.le_trans (List.length_filter_le _ _) (by rw [List.length_range]; exact Nat.le_refl n)
theorem low_le (i : Nat) : lowN n cand eq disk i ≤ 60 := by
  unfold lowN; rw [fold_low]; exact fold_min_le _ _
/-- a greater generation, a greater key -/
theorem key_gen (L : Labels n cand gen eq disk dead) {i j : Nat} (h : gen i < gen j) : keyN n cand gen eq disk dead i < keyN n cand gen eq disk dead j := by
  have h1 := votes_le (n := n) (cand := cand) (eq := eq) i
  have h2 := L.n
  have h3 := low_le (n := n) (cand := cand) (eq := eq) (disk := disk) i
  unfold keyN
  split <;> split <;> omega
theorem key_lt (L : Labels n cand gen eq disk dead) {i j : Nat} (h : gen i = gen j) : keyN n cand gen eq disk dead i < keyN n cand gen eq disk dead j ↔
    (if outN n cand gen eq disk dead j = outN n cand gen eq disk dead i then (votesN n cand eq i < votesN n cand eq j ∨ votesN n cand eq j = votesN n cand eq i ∧ lowN n cand eq disk j < lowN n cand eq disk i) else outN n cand gen eq disk dead j = true) := by
  have h1 := votes_le (n := n) (cand := cand) (eq := eq) i
  have h1' := votes_le (n := n) (cand := cand) (eq := eq) j
  have h2 := L.n
  have h3 := low_le (n := n) (cand := cand) (eq := eq) (disk := disk) i
  have h3' := low_le (n := n) (cand := cand) (eq := eq) (disk := disk) j
  unfold keyN
  rw [h]
  cases outN n cand gen eq disk dead i <;> cases outN n cand gen eq disk dead j <;> simp <;> omega
/-- the candidates with the greatest generation -/
def newC (n : Nat) (cand : Nat → Bool) (gen : Nat → Nat) (top : Nat) : List Nat := ((List.range n).filter cand).filter fun i => gen i == top
theorem mem_newC {top i : Nat} : i ∈ newC n cand gen top ↔ i < n ∧ cand i = true ∧ gen i = top := by
  unfold newC
  rw [List.mem_filter, List.mem_filter, List.mem_range, beq_iff_eq]
  exact ⟨fun h => ⟨h.1.1, h.1.2, h.2⟩, fun h => ⟨⟨h.1, h.2.1⟩, h.2.2⟩⟩
theorem group_mem (L : Labels n cand gen eq disk dead) {top : Nat} {gs : List (List Nat)} (G : Groups eq (newC n cand gen top) gs) {g : List Nat} (hg : g ∈ gs) {i : Nat} :
    i ∈ g ↔ i < n ∧ cand i = true ∧ gen i = top ∧ eq (g.headD 0) i = true := by
  have : i ∈ g ↔ i ∈ (newC n cand gen top).filter (fun j => eq (g.headD 0) j) := by rw [← G.form g hg]
  rw [this, List.mem_filter, mem_newC]
  exact ⟨fun h => ⟨h.1.1, h.1.2.1, h.1.2.2, h.2⟩, fun h => ⟨⟨h.1, h.2.1, h.2.2.1⟩, h.2.2.2⟩⟩
theorem group_form (L : Labels n cand gen eq disk dead) {top : Nat} {gs : List (List Nat)} (G : Groups eq (newC n cand gen top) gs) {g : List Nat} (hg : g ∈ gs) :
    (List.range n).filter (fun j => cand j && eq j (g.headD 0)) = g := by
  have hh := (group_mem L G hg).1 (headD_mem (G.ne g hg))
  conv => rhs; rw [G.form g hg]
  unfold newC
  rw [List.filter_filter, List.filter_filter]
  apply List.filter_congr
  intro j _
  rw [Bool.eq_iff_iff]
  simp only [Bool.and_eq_true, beq_iff_eq]
  constructor
  · rintro ⟨h1, h2⟩; exact ⟨⟨L.s _ _ h2, (L.g _ _ h2).trans hh.2.2.1⟩, h1⟩
  · rintro ⟨⟨h1, h2⟩, h3⟩; exact ⟨h3, L.s _ _ h1⟩
theorem group_votes (L : Labels n cand gen eq disk dead) {top : Nat} {gs : List (List Nat)} (G : Groups eq (newC n cand gen top) gs) {g : List Nat} (hg : g ∈ gs) :
    votesN n cand eq (g.headD 0) = g.length := by unfold votesN; rw [group_form L G hg]
theorem group_low (L : Labels n cand gen eq disk dead) {top : Nat} {gs : List (List Nat)} (G : Groups eq (newC n cand gen top) gs) {g : List Nat} (hg : g ∈ gs) :
    lowN n cand eq disk (g.headD 0) = lowG disk g := by
  unfold lowN
  rw [fold_low, group_form L G hg]
  exact low_of (G.ne g hg) fun i hi => by
    have h := (group_mem L G hg).1 hi
    have := L.k i h.1 h.2.1
    omega
theorem group_out (L : Labels n cand gen eq disk dead) {top : Nat} {gs : List (List Nat)} (G : Groups eq (newC n cand gen top) gs) {g : List Nat} (hg : g ∈ gs) :
    outN n cand gen eq disk dead (g.headD 0) = outG disk dead gs g := by
  have hh := (group_mem L G hg).1 (headD_mem (G.ne g hg))
  rw [Bool.eq_iff_iff]
  unfold outN outG
  simp only [List.all_eq_true, List.mem_range, Bool.or_eq_true, Bool.not_eq_true', Bool.and_eq_false_iff, beq_eq_false_iff_ne, Bool.not_eq_false', beq_iff_eq]
  constructor
  · intro h o ho
    by_cases he : o.headD 0 = g.headD 0
    · exact .inl he
    · refine .inr fun i hi => ?_
      have hm := (group_mem L G ho).1 hi
      rcases h i hm.1 with (h1 | h1 | h1) | h1
      · rw [hm.2.1] at h1; cases h1
      · exact absurd (hm.2.2.1.trans hh.2.2.1.symm) h1
      · exfalso
        have h2 := L.t _ _ _ hm.2.2.2 h1
        obtain ⟨a, ha, rfl⟩ := List.getElem_of_mem ho
        obtain ⟨b, hb, rfl⟩ := List.getElem_of_mem hg
        have hp := List.pairwise_iff_getElem.1 G.heads
        rcases Nat.lt_trichotomy a b with e | e | e
        · have := (hp a b ha hb e).2; rw [h2] at this; cases this
        · subst e; exact he rfl
        · have := (hp b a hb ha e).2; rw [L.s _ _ h2] at this; cases this
      · exact h1
  · intro h j hj
    by_cases h1 : cand j = true
    · by_cases h2 : gen j = gen (g.headD 0)
      · by_cases h3 : eq j (g.headD 0) = true
        · exact .inl (.inr (.inr h3))
        · obtain ⟨o, ho, hoj⟩ := G.cover j (mem_newC.2 ⟨hj, h1, h2.trans hh.2.2.1⟩)
          rcases h o ho with h4 | h4
          · exact absurd (L.s _ _ (h4 ▸ hoj)) h3
          · exact .inr (h4 j ((group_mem L G ho).2 ⟨hj, h1, h2.trans hh.2.2.1, hoj⟩))
      · exact .inl (.inr (.inl h2))
    · exact .inl (.inl (by simpa using h1))
theorem group_key (L : Labels n cand gen eq disk dead) {top : Nat} {gs : List (List Nat)} (G : Groups eq (newC n cand gen top) gs) {g : List Nat} (hg : g ∈ gs) :
    keyN n cand gen eq disk dead (g.headD 0) = (top * 2 + if outG disk dead gs g then 1 else 0) * 1000000 + gkey disk g := by
  have hh := (group_mem L G hg).1 (headD_mem (G.ne g hg))
  unfold keyN gkey
  rw [group_votes L G hg, group_low L G hg, group_out L G hg, hh.2.2.1]
  omega
theorem gkey_lt (L : Labels n cand gen eq disk dead) {top : Nat} {gs : List (List Nat)} (G : Groups eq (newC n cand gen top) gs) {g : List Nat} (hg : g ∈ gs) : gkey disk g < 1000000 := by
  have h1 := votes_le (n := n) (cand := cand) (eq := eq) (g.headD 0)
  rw [group_votes L G hg] at h1
  have := L.n
  unfold gkey
  omega
/-- WHAT choose RETURNS: the first candidate with the greatest key. -/
theorem choose_best (L : Labels n cand gen eq disk dead) {top : Nat} (htop : ∀ i, i < n → cand i = true → gen i ≤ top) {gs : List (List Nat)} (G : Groups eq (newC n cand gen top) gs) (hne : gs ≠ []) :
    IsBest cand (keyN n cand gen eq disk dead) n (chooseF disk dead gs) := by
  have hlow : ∀ g, g ∈ gs → lowG disk g ≤ 60 := fun g hg => by rw [← group_low L G hg]; exact low_le _
  have hsub : ∀ s, s ∈ amongG disk dead gs → s ∈ gs := fun s hs => by
    unfold amongG at hs
    split at hs
    · exact hs
    · exact (List.mem_filter.1 hs).1
  have hane : amongG disk dead gs ≠ [] := by
    unfold amongG
    split
    · exact hne
    · assumption
  have hsame : ∀ s, s ∈ gs → s ∉ amongG disk dead gs → outG disk dead gs s = false ∧ ∀ r, r ∈ amongG disk dead gs → outG disk dead gs r = true := fun s hs hn => by
    unfold amongG at hn ⊢
    split at hn
    · exact absurd hs hn
    · rename_i hne'
      rw [List.mem_filter] at hn
      refine ⟨by cases ho : outG disk dead gs s with
        | false => rfl
        | true => exact absurd ⟨hs, ho⟩ hn, fun r hr => ?_⟩
      rw [if_neg hne'] at hr
      exact (List.mem_filter.1 hr).2
  have hall : ∀ s r, s ∈ amongG disk dead gs → r ∈ amongG disk dead gs → outG disk dead gs s = outG disk dead gs r := fun s r hs hr => by
    unfold amongG at hs hr
    split at hs
    · rename_i he
      rw [if_pos he] at hr
      have hf : ∀ x, x ∈ gs → outG disk dead gs x = false := fun x hx => by
        cases ho : outG disk dead gs x with
        | false => rfl
        | true => have : x ∈ gs.filter (outG disk dead gs) := List.mem_filter.2 ⟨hx, ho⟩; rw [he] at this; cases this
      rw [hf s hs, hf r hr]
    · rename_i he
      rw [if_neg he] at hr
      rw [(List.mem_filter.1 hs).2, (List.mem_filter.1 hr).2]
  obtain ⟨A, B, hAB, hA, hB⟩ := pick_top hane fun s hs => hlow s (hsub s hs)
  unfold chooseF
  generalize pickG disk (amongG disk dead gs) = r at *
  have hra : r ∈ amongG disk dead gs := by rw [hAB]; simp
  have hr := hsub r hra
  have hrm := (group_mem L G hr).1 (headD_mem (G.ne r hr))
  have hkr := group_key L G hr
  have hgr := gkey_lt L G hr
  -- of every candidate with the greatest generation
  have hkey : ∀ j, j < n → cand j = true → gen j = top → ∃ g, g ∈ gs ∧ eq (g.headD 0) j = true ∧ g.headD 0 ≤ j ∧ keyN n cand gen eq disk dead j = keyN n cand gen eq disk dead (g.headD 0) := fun j hj hc hg => by
    obtain ⟨g, hgm, he⟩ := G.cover j (mem_newC.2 ⟨hj, hc, hg⟩)
    refine ⟨g, hgm, he, ?_, (L.key_eq he).symm⟩
    have hjg := (group_mem L G hgm).2 ⟨hj, hc, hg, he⟩
    have hsort : g.Pairwise (· < ·) := by
      rw [G.form g hgm]
      unfold newC
      exact ((List.pairwise_lt_range.filter _).filter _).filter _
    cases g with
    | nil => cases hjg
    | cons x t =>
      rw [List.pairwise_cons] at hsort
      rcases List.mem_cons.1 hjg with e | e
      · rw [e]; exact Nat.le_refl _
      · exact Nat.le_of_lt (hsort.1 j e)
  -- a group against the chosen one
  have hcmp : ∀ g, g ∈ gs → keyN n cand gen eq disk dead (g.headD 0) ≤ keyN n cand gen eq disk dead (r.headD 0) := fun g hg => by
    rw [group_key L G hg, hkr]
    have hgg := gkey_lt L G hg
    by_cases hga : g ∈ amongG disk dead gs
    · rw [hall g r hga hra]
      have : gkey disk g ≤ gkey disk r := by
        rw [hAB, List.mem_append, List.mem_cons] at hga
        rcases hga with h | h | h
        · exact Nat.le_of_lt (hA g h)
        · rw [h]; exact Nat.le_refl _
        · exact hB g h
      omega
    · obtain ⟨h1, h2⟩ := hsame g hg hga
      rw [h1, h2 r hra]
      simp only [Bool.false_eq_true, if_false, if_true]
      omega
  refine ⟨hrm.1, hrm.2.1, fun j hj hc => ?_, fun j hj hc => ?_⟩
  · have := htop j hj hc
    rcases Nat.lt_or_ge (gen j) top with e | e
    · exact Nat.le_of_lt (key_gen L (by rw [hrm.2.2.1]; exact e))
    · obtain ⟨g, h1, h2, h3, h4⟩ := hkey j hj hc (by omega)
      rw [h4]; exact hcmp g h1
  · have hjn : j < n := Nat.lt_trans hj hrm.1
    have := htop j hjn hc
    rcases Nat.lt_or_ge (gen j) top with e | e
    · exact key_gen L (by rw [hrm.2.2.1]; exact e)
    · obtain ⟨g, h1, h2, h3, h4⟩ := hkey j hjn hc (by omega)
      rw [h4]
      have hlt : g.headD 0 < r.headD 0 := Nat.lt_of_le_of_lt h3 hj
      rw [group_key L G h1, hkr]
      have hgg := gkey_lt L G h1
      by_cases hga : g ∈ amongG disk dead gs
      · rw [hall g r hga hra]
        have hgA : g ∈ A := by
          have hsorted : (amongG disk dead gs).Pairwise fun a b => a.headD 0 < b.headD 0 := by
            unfold amongG
            split
            · exact G.heads.imp fun h => h.1
            · exact (G.heads.imp fun h => h.1).filter _
          rw [hAB, List.mem_append, List.mem_cons] at hga
          rcases hga with h | h | h
          · exact h
          · rw [h] at hlt; omega
          · rw [hAB, List.pairwise_append, List.pairwise_cons] at hsorted
            have := hsorted.2.1.1 g h
            omega
        have := hA g hgA
        omega
      · obtain ⟨h5, h6⟩ := hsame g h1 hga
        rw [h5, h6 r hra]
        simp only [Bool.false_eq_true, if_false, if_true]
        omega
end law
end Go.Proofs.Ytpmbbeflgifgaaa.El
