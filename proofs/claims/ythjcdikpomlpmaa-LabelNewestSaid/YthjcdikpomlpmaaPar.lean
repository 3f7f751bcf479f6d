/-
  A region that draws its order: operations of which several may come up, each with a word of its own about what it leaves, that no other undoes. No program is named here.
-/
import Derived.Test.YthjcdikpomlpmaaAlt
namespace Go.Proofs.Ythjcdikpomlpmaa
open Go.RowKit

theorem put_put (a : Act) (d : Option Tmp) (x y : Value) : (a.put d x).put d y = a.put d y := by
  cases d <;> simp [Act.put]
theorem put_comm (a : Act) (d e : Option Tmp) (x y : Value) (h : d ≠ e ∨ d = none) : (a.put d x).put e y = (a.put e y).put d x := by
  cases d <;> cases e <;> simp [Act.put] <;> (apply Array.setIfInBounds_comm; simp_all)

/-- the slots of the operations in M hold what 'vals' says -/
def laidP (dst : Nat → Option Tmp) : List Nat → (Nat → Value) → Act → Act
  | [], _, a => a
  | i :: M, vals, a => laidP dst M vals (a.put (dst i) (vals i))
theorem laid_put (dst : Nat → Option Tmp) (i : Nat) (v : Value) : ∀ (M : List Nat) (vals : Nat → Value) (a : Act), (∀ j ∈ M, dst j ≠ dst i) → (laidP dst M vals a).put (dst i) v = laidP dst M vals (a.put (dst i) v)
  | [], _, _, _ => rfl
  | j :: M, vals, a, h => by
    show (laidP dst M vals _).put _ _ = laidP dst M vals _
    rw [laid_put dst i v M vals _ (fun k hk => h k (List.mem_cons_of_mem _ hk)), put_comm _ _ _ _ _ (.inl (h j (List.mem_cons_self ..)))]
def upd (vals : Nat → Value) (i : Nat) (v : Value) : Nat → Value := fun j => if j = i then v else vals j
theorem laid_other (dst : Nat → Option Tmp) (i : Nat) (v : Value) : ∀ (M : List Nat) (vals : Nat → Value) (a : Act), i ∉ M → laidP dst M (upd vals i v) a = laidP dst M vals a
  | [], _, _, _ => rfl
  | j :: M, vals, a, h => by
    have hj : j ≠ i := fun e => h (e ▸ List.mem_cons_self ..)
    simp only [laidP, upd, if_neg hj]
    exact laid_other dst i v M vals _ (fun hm => h (List.mem_cons_of_mem _ hm))
theorem laid_upd (dst : Nat → Option Tmp) (i : Nat) (v : Value) : ∀ (M : List Nat) (vals : Nat → Value) (a : Act), M.Nodup → (∀ j ∈ M, j ≠ i → dst j ≠ dst i) → i ∈ M → (laidP dst M vals a).put (dst i) v = laidP dst M (upd vals i v) a
  | [], _, _, _, _, h => by cases h
  | j :: M, vals, a, hn, hd, h => by
    obtain ⟨hjM, hn'⟩ := List.nodup_cons.1 hn
    by_cases e : j = i
    · subst e
      simp only [laidP]
      rw [laid_put dst j v M vals _ (fun k hk => hd k (List.mem_cons_of_mem _ hk) (fun e => hjM (e ▸ hk))), put_put, laid_other dst j v M vals _ hjM]
      simp [upd]
    · have hi : i ∈ M := by
        rcases List.mem_cons.1 h with h | h
        · exact absurd h.symm e
        · exact h
      simp only [laidP]
      rw [laid_upd dst i v M vals _ hn' (fun k hk => hd k (List.mem_cons_of_mem _ hk)) hi]
      simp [upd, e]

section
variable {P : Program} {ops : Array Oper} {Q : Exit → Act → World → Prop} {md : Region.Mode}

/-- the numbers of M that are not listed yet -/
def open_ (M : List Nat) (listed : Array Bool) : List Nat := M.filter fun i => !listed.getD i true
theorem open_set {M : List Nat} {listed : Array Bool} {i : Nat} (hn : M.Nodup) (hi : i ∈ M) (h : listed.getD i true = false) : (open_ M (listed.setIfInBounds i true)).length + 1 = (open_ M listed).length := by
  induction M with
  | nil => cases hi
  | cons j M ih =>
    obtain ⟨hj, hn'⟩ := List.nodup_cons.1 hn
    by_cases e : j = i
    · subst e
      have h1 : (listed.setIfInBounds j true).getD j true = true := by
        rcases Nat.lt_or_ge j listed.size with hl | hl
        · simp [hl]
        · simp [Array.getElem?_eq_none hl] at h
      have h2 : open_ M (listed.setIfInBounds j true) = open_ M listed := by
        unfold open_
        refine List.filter_congr fun k hk => ?_
        rw [getD_set_ne true (show j ≠ k from fun e => hj (by rw [e]; exact hk))]
      have h3 : open_ (j :: M) (listed.setIfInBounds j true) = open_ M (listed.setIfInBounds j true) := by
        unfold open_; rw [List.filter_cons, h1]; rfl
      have h4 : open_ (j :: M) listed = j :: open_ M listed := by
        unfold open_; rw [List.filter_cons, h]; rfl
      rw [h3, h4, h2]; rfl
    · have hi' : i ∈ M := by
        rcases List.mem_cons.1 hi with h' | h'
        · exact absurd h'.symm e
        · exact h'
      have := ih hn' hi'
      unfold open_ at *
      rw [List.filter_cons, List.filter_cons, getD_set_ne true (Ne.symm e)]
      split
      · simp only [List.length_cons]; omega
      · exact this

theorem least {p : Nat → Prop} : ∀ n, p n → ∃ k, p k ∧ ∀ j, j < k → ¬ p j := by
  intro n
  induction n using Nat.strongRecOn with
  | _ n ih =>
    intro h
    by_cases hx : ∃ j, j < n ∧ p j
    · obtain ⟨j, hj, hp⟩ := hx
      exact ih j hj hp
    · exact ⟨n, h, fun j hj hp => hx ⟨j, hj, hp⟩⟩
theorem getD_tf {listed : Array Bool} {k : Nat} (h : listed.getD k false = true) : listed.getD k true = true := by
  rcases Nat.lt_or_ge k listed.size with hl | hl
  · simp [hl] at h ⊢; exact h
  · simp [Array.getElem?_eq_none hl] at h
theorem getD_ft {listed : Array Bool} {k : Nat} (hk : k < listed.size) (h : listed.getD k true = true) : listed.getD k false = true := by
  simp [hk] at h ⊢; exact h

/-- what is known of operation i: of its value, of the values that it was made of -/
def said (pd : Nat → List Nat) (p : Nat → List Value → Value → World → Prop) (vals : Nat → Value) (i : Nat) (w : World) : Prop := p i ((pd i).map vals) (vals i) w
/-- the block that a value of this kind holds -/
def ownB : Value → Option Nat
  | .slice (some a) _ (_ + 1) => some a.block
  | .pointer (some a) => some a.block
  | _ => none

/-- operations of which several may come up: each lets all stand that was there before -/
theorem wpAnyG_par (M fr : List Nat) (dst : Nat → Option Tmp) (pd : Nat → List Nat) (p : Nat → List Value → Value → World → Prop) (b : World) (a0 : Act) (listed0 listedE : Array Bool) (rest : Nat)
    (hsz : listed0.size = ops.size) (hlt : ∀ k o, ops[k]? = some o → ∀ e ∈ o.after, Region.binds md e = true → e.on < k)
    (hM : M.Nodup) (hd : ∀ i ∈ M, ∀ j ∈ M, j ≠ i → dst j ≠ dst i)
    (hfin : ∀ k, listed0.getD k true = false → k ∉ M → ∀ m ∈ M, bef md ops ops.size m k = true)
    (hpd : ∀ i ∈ M, ∀ j ∈ pd i, j ∈ M ∧ bef md ops ops.size j i = true)
    (hE : ∀ k, listedE.getD k true = (if k ∈ M then true else listed0.getD k true)) (hEs : listedE.size = listed0.size)
    (stay : ∀ i ∈ M, ∀ u v x y, Ext x y → p i u v x → p i u v y)
    (step : ∀ i ∈ M, ∀ vals w, Ext b w → (∀ j ∈ pd i, said pd p vals j w) →
      wpOp P ops Q i (fun a' w' => ∃ v, a' = (laidP dst M vals a0).put (dst i) v ∧ Ext w w' ∧ p i ((pd i).map vals) v w' ∧ (i ∈ fr → ∀ g, ownB v = some g → w.heap.size ≤ g ∧ g < w'.heap.size)) (laidP dst M vals a0) w)
    (last : ∀ vals w, Ext b w → (∀ i ∈ M, said pd p vals i w) → (∀ i ∈ fr, i ∈ M → ∀ g, ownB (vals i) = some g → b.heap.size ≤ g ∧ g < w.heap.size) →
      (∀ i ∈ fr, i ∈ M → ∀ j ∈ fr, j ∈ M → i ≠ j → ∀ g, ownB (vals i) = some g → ownB (vals j) ≠ some g) → wpAnyG P md ops Q rest (Ext b) listedE (laidP dst M vals a0) w) :
    ∀ (n : Nat) (listed : Array Bool) (vals : Nat → Value) (w : World), Closed md ops listed → (open_ M listed).length = n → listed.size = listed0.size → (∀ k, k ∉ M → listed.getD k true = listed0.getD k true) → Ext b w →
      (∀ j ∈ M, listed.getD j true = true → said pd p vals j w) →
      (∀ i ∈ fr, i ∈ M → listed.getD i true = true → ∀ g, ownB (vals i) = some g → b.heap.size ≤ g ∧ g < w.heap.size) →
      (∀ i ∈ fr, i ∈ M → ∀ j ∈ fr, j ∈ M → listed.getD i true = true → listed.getD j true = true → i ≠ j → ∀ g, ownB (vals i) = some g → ownB (vals j) ≠ some g) → wpAnyG P md ops Q (n + rest) (Ext b) listed (laidP dst M vals a0) w := by
  intro n
  induction n with
  | zero =>
    intro listed vals w _ hn hs hk hS hp hg1 hg2
    have hall : ∀ i ∈ M, listed.getD i true = true := fun i hi => by
      have := List.filter_eq_nil_iff.1 (List.length_eq_zero_iff.1 hn) i hi
      simpa using this
    have he : listed = listedE := by
      refine Array.ext (by omega) fun k h1 h2 => ?_
      have h3 := hE k
      by_cases hm : k ∈ M
      · have := hall k hm
        simp [hm, h1, h2] at h3 this
        rw [h3, this]
      · have := hk k hm
        rw [if_neg hm, ← this] at h3
        simp [h1, h2] at h3
        exact h3.symm
    rw [Nat.zero_add, he]
    exact last vals w hS (fun i hi => hp i hi (hall i hi)) (fun i hi hm => hg1 i hi hm (hall i hm)) (fun i hi hm j hj hmj => hg2 i hi hm j hj hmj (hall i hm) (hall j hmj))
  | succ n ih =>
    intro listed vals w hcl hn hs hk hS hp hg1 hg2
    rw [Nat.succ_add]
    obtain ⟨m0, hm0⟩ : ∃ m0, m0 ∈ open_ M listed := List.exists_mem_of_length_pos (by omega)
    have hm1 := List.mem_filter.1 hm0
    have hm2 : listed.getD m0 true = false := by simpa using hm1.2
    refine ⟨fun h0 => ?_, fun i hi => ?_⟩
    · obtain ⟨k, hk1, hk2⟩ := least (p := fun k => listed.getD k true = false) m0 hm2
      have hkl : k < ops.size := by
        rcases Nat.lt_or_ge k listed.size with h' | h'
        · omega
        · simp [Array.getElem?_eq_none h'] at hk1
      have : k ∈ Region.ready md ops listed := mem_ready.2 ⟨hk1, ops[k], by simp [hkl], fun e he hb => by
        have h1 := hlt k ops[k] (by simp [hkl]) e he hb
        have h2 := hk2 e.on h1
        exact getD_ft (by omega) (by simpa using h2)⟩
      rw [h0] at this
      cases this
    · obtain ⟨hi0, o, ho, _⟩ := mem_ready.1 hi
      by_cases him : i ∈ M
      · have hpre : ∀ j ∈ pd i, listed.getD j true = true := fun j hj => getD_tf (bef_listed hcl _ _ (ready_preds hi) (hpd i him j hj).2)
        refine wpOp_mono (fun a' w' h => ?_) (step i him vals w hS fun j hj => hp j (hpd i him j hj).1 (hpre j hj))
        obtain ⟨v, rfl, hS', hv, hfr⟩ := h
        have hupd : ∀ j, j ≠ i → upd vals i v j = vals j := fun j hj => by simp [upd, hj]
        have hmap : ∀ j ∈ M, (listed.getD j true = true ∨ j = i) → (pd j).map (upd vals i v) = (pd j).map vals := by
          intro j hj hl
          refine List.map_congr_left fun k hkd => hupd k ?_
          rintro rfl
          have hb := (hpd j hj k hkd).2
          rcases hl with hl | rfl
          · have hjo : j < ops.size := by
              rcases Nat.lt_or_ge j ops.size with h' | h'
              · exact h'
              · obtain ⟨f, hf⟩ : ∃ f, ops.size = f := ⟨_, rfl⟩
                rw [hf] at hb
                cases f with
                | zero => simp [bef] at hb
                | succ f => simp [bef, Array.getElem?_eq_none h'] at hb
            have := bef_listed hcl ops.size j (fun o ho e he hbe => hcl j o (getD_ft (by omega) hl) ho e he hbe) hb
            exact ready_not hi this
          · exact ready_not hi (bef_listed hcl _ _ (ready_preds hi) hb)
        have hset : ∀ j, j ≠ i → (listed.setIfInBounds i true).getD j true = listed.getD j true := fun j hj => getD_set_ne true (Ne.symm hj)
        rw [laid_upd dst i v M vals a0 hM (fun j hj hne => hd i him j hj hne) him]
        refine ⟨Ext b, .inl fun _ h => h, hS.trans hS', ih (listed.setIfInBounds i true) (upd vals i v) w' (hcl.set hi) ?_ (by simpa using hs) ?_ (hS.trans hS') ?_ ?_ ?_⟩
        · have := open_set hM him hi0
          omega
        · intro k hkm
          rw [hset k (fun e => hkm (by rw [e]; exact him))]
          exact hk k hkm
        · intro j hj hl
          unfold said
          by_cases e : j = i
          · subst e
            rw [hmap j hj (.inr rfl)]
            simpa [upd] using hv
          · rw [hset j e] at hl
            rw [hmap j hj (.inl hl), hupd j e]
            exact stay j hj _ _ _ _ hS' (hp j hj hl)
        · intro j hj hjm hl g hg
          by_cases e : j = i
          · subst e
            have hg' : ownB v = some g := by simpa [upd] using hg
            have h1 := hfr hj g hg'
            have h2 := hS.below.size
            exact ⟨by omega, h1.2⟩
          · rw [hset j e] at hl
            rw [hupd j e] at hg
            have h1 := hg1 j hj hjm hl g hg
            have h2 := hS'.below.size
            exact ⟨h1.1, by omega⟩
        · intro j hj hjm k hkf hkm hlj hlk hne g hgj hgk
          by_cases e : j = i
          · subst e
            have hg' : ownB v = some g := by simpa [upd] using hgj
            rw [hset k (Ne.symm hne)] at hlk
            rw [hupd k (Ne.symm hne)] at hgk
            have h1 := hfr hj g hg'
            have h2 := hg1 k hkf hkm hlk g hgk
            omega
          · by_cases e2 : k = i
            · subst e2
              have hg' : ownB v = some g := by simpa [upd] using hgk
              rw [hset j e] at hlj
              rw [hupd j e] at hgj
              have h1 := hfr hkf g hg'
              have h2 := hg1 j hj hjm hlj g hgj
              omega
            · rw [hset j e] at hlj
              rw [hset k e2] at hlk
              rw [hupd j e] at hgj
              rw [hupd k e2] at hgk
              exact hg2 j hj hjm k hkf hkm hlj hlk hne g hgj hgk
      · have h1 := hk i him
        rw [hi0] at h1
        have h2 := getD_tf (bef_listed hcl _ _ (ready_preds hi) (hfin i h1.symm him m0 hm1.1))
        rw [hm2] at h2
        cases h2
end

/-! ### the rule for a walk -/
def ParAll : List Nat → (Nat → Prop) → Prop
  | [], _ => True
  | i :: r, f => f i ∧ ParAll r f
theorem ParAll.mem {f : Nat → Prop} : ∀ {M : List Nat}, ParAll M f → ∀ i ∈ M, f i
  | [], _, _, h => by cases h
  | j :: r, h, i, hi => by
    rcases List.mem_cons.1 hi with rfl | hi
    · exact h.1
    · exact ParAll.mem h.2 i hi
theorem ParAll.of {f : Nat → Prop} : ∀ {M : List Nat}, (∀ i ∈ M, f i) → ParAll M f
  | [], _ => trivial
  | j :: r, h => ⟨h j (List.mem_cons_self ..), ParAll.of fun i hi => h i (List.mem_cons_of_mem _ hi)⟩
/-- the slots of the operations: number and slot -/
def laidT : List (Nat × Nat) → (Nat → Value) → Act → Act
  | [], _, a => a
  | (i, t) :: M, vals, a => laidT M vals (a.put (some t) (vals i))
def slotOf : List (Nat × Nat) → Nat → Option Tmp
  | [], _ => none
  | (j, t) :: M, i => if i = j then some t else slotOf M i
def depsOf : List (Nat × List Nat) → Nat → List Nat
  | [], _ => []
  | (j, t) :: M, i => if i = j then t else depsOf M i
theorem laid_T (f : Nat → Option Tmp) : ∀ (M : List (Nat × Nat)) (vals : Nat → Value) (a : Act), (∀ x ∈ M, f x.1 = some x.2) → laidP f (M.map (·.1)) vals a = laidT M vals a
  | [], _, _, _ => rfl
  | (i, t) :: M, vals, a, h => by
    have h1 : f i = some t := h (i, t) (List.mem_cons_self ..)
    simp only [List.map_cons, laidP, laidT, h1]
    exact laid_T f M vals _ fun x hx => h x (List.mem_cons_of_mem _ hx)
def setAll : List Nat → Array Bool → Array Bool
  | [], l => l
  | i :: r, l => setAll r (l.setIfInBounds i true)
def dstIs (ops : Array Oper) (x : Nat × Nat) : Bool := match ops[x.1]? with
  | some o => (match o.dst with | some t => t == x.2 | none => false)
  | none => false
def nodupB : List Nat → Bool
  | [] => true
  | i :: r => !r.contains i && nodupB r
theorem nodupB_iff : ∀ {l : List Nat}, nodupB l = true → l.Nodup
  | [], _ => List.nodup_nil
  | i :: r, h => by
    simp only [nodupB, Bool.and_eq_true, Bool.not_eq_true'] at h
    refine List.nodup_cons.2 ⟨fun hm => ?_, nodupB_iff h.2⟩
    have := List.contains_iff_mem.2 hm
    rw [h.1] at this; cases this
theorem nodup_snd : ∀ {M : List (Nat × Nat)}, (M.map (·.2)).Nodup → ∀ {x y : Nat × Nat}, x ∈ M → y ∈ M → x.2 = y.2 → x = y
  | [], _, _, _, h, _, _ => by cases h
  | z :: r, hn, x, y, hx, hy, he => by
    rw [List.map_cons, List.nodup_cons] at hn
    rcases List.mem_cons.1 hx with rfl | hx' <;> rcases List.mem_cons.1 hy with rfl | hy'
    · rfl
    · exact absurd (List.mem_map.2 ⟨y, hy', he.symm⟩) hn.1
    · exact absurd (List.mem_map.2 ⟨x, hx', he⟩) hn.1
    · exact nodup_snd hn.2 hx' hy' he
def preB (md : Region.Mode) (ops : Array Oper) : List (Nat × Bool) → Array Bool → Bool
  | [], _ => true
  | (i, true) :: r, listed => (ops[i]?).isSome && Region.free md ops listed i && (Region.ready md ops listed).contains i && preB md ops r (listed.setIfInBounds i true)
  | (i, false) :: r, listed => (Region.ready md ops listed == [i]) && preB md ops r (listed.setIfInBounds i true)
def parB (ops : Array Oper) (pre : List (Nat × Bool)) (M : List (Nat × Nat)) (deps : List (Nat × List Nat)) (rest : List (Nat × Bool)) : Bool :=
  Region.noSelect ops && preB .any ops pre (Array.replicate ops.size false) &&
  ((List.range ops.size).all fun k => match ops[k]? with | some o => o.after.all (fun e => !Region.binds .any e || decide (e.on < k)) | none => true) &&
  nodupB (M.map (·.1)) && nodupB (M.map (·.2)) && M.all (dstIs ops) && M.all (fun x => slotOf M x.1 == some x.2) && M.all (fun x => !(setAll (pre.map (·.1)) (Array.replicate ops.size false)).getD x.1 true) &&
  ((List.range ops.size).all fun k => (setAll (pre.map (·.1)) (Array.replicate ops.size false)).getD k true || (M.map (·.1)).contains k || (M.map (·.1)).all fun m => bef .any ops ops.size m k) &&
  ((M.map (·.1)).all fun i => (depsOf deps i).all fun j => (M.map (·.1)).contains j && bef .any ops ops.size j i) &&
  ordB .any ops rest (setAll (M.map (·.1)) (setAll (pre.map (·.1)) (Array.replicate ops.size false))) && (pre.length + (M.length + rest.length) == ops.size)
theorem setAll_size : ∀ (l : List Nat) (x : Array Bool), (setAll l x).size = x.size
  | [], _ => rfl
  | i :: r, x => by rw [setAll, setAll_size r]; simp
theorem setAll_get : ∀ (l : List Nat) (x : Array Bool) (k : Nat), (setAll l x).getD k true = (if k ∈ l then true else x.getD k true)
  | [], x, k => by simp [setAll]
  | i :: r, x, k => by
    rw [setAll, setAll_get r]
    by_cases h : k ∈ r
    · simp [h]
    · by_cases e : i = k
      · subst e
        rcases Nat.lt_or_ge i x.size with h' | h'
        · simp [h']
        · simp [Array.getElem?_eq_none h']
      · rw [if_neg h, getD_set_ne true e]
        simp [h, Ne.symm e]
theorem setAll_closed {md : Region.Mode} {ops : Array Oper} : ∀ (l : List (Nat × Bool)) (x : Array Bool), preB md ops l x = true → Closed md ops x → Closed md ops (setAll (l.map (·.1)) x)
  | [], _, _, h => h
  | (i, true) :: r, x, hB, h => by
    simp only [preB, Bool.and_eq_true] at hB
    exact setAll_closed r _ hB.2 (h.set (by simpa using hB.1.2))
  | (i, false) :: r, x, hB, h => by
    simp only [preB, Bool.and_eq_true, beq_iff_eq] at hB
    exact setAll_closed r _ hB.2 (h.set (by rw [hB.1]; simp))
theorem slotOf_mem {M : List (Nat × Nat)} {i t : Nat} (h : slotOf M i = some t) : (i, t) ∈ M := by
  induction M with
  | nil => cases h
  | cons x r ih =>
    obtain ⟨j, s⟩ := x
    simp only [slotOf] at h
    split at h
    · rename_i e; cases h; rw [e]; exact List.mem_cons_self ..
    · exact List.mem_cons_of_mem _ (ih h)

section
variable {P : Program} {l : List Oper} {Q : Exit → Act → World → Prop}
/-- the first operations, in an order; K: what is to be shown behind them, of the base, the slots and the world -/
def wpExtK (P : Program) (l : List Oper) (Q : Exit → Act → World → Prop) (K : World → Act → World → Prop) : List (Nat × Bool) → World → Act → World → Prop
  | [], b, a, w => K b a w
  | (i, true) :: r, b, a, w => ∃ v o, l.toArray[i]? = some o ∧ YieldsIf P l.toArray (Ext b) o v a ∧ wpExtK P l Q K r b (a.put o.dst v) w
  | (i, false) :: r, b, a, w => wpOp P l.toArray (Calm Q) i (fun a' w' => Ext b w' ∧ wpExtK P l Q K r w' a' w') a w
theorem wpAnyG_of_pre (hs : Region.noSelect l.toArray = true) (n : Nat) : ∀ (pre : List (Nat × Bool)) (b : World) (listed : Array Bool) (a : Act) (w : World),
    Closed .any l.toArray listed → preB .any l.toArray pre listed = true → Ext b w →
    wpExtK P l Q (fun b' a w => Ext b' w → wpAnyG P .any l.toArray (Calm Q) n (Ext b') (setAll (pre.map (·.1)) listed) a w) pre b a w → wpAnyG P .any l.toArray (Calm Q) (pre.length + n) (Ext b) listed a w
  | [], b, listed, a, w, _, _, hS, h => by rw [List.length_nil, Nat.zero_add]; exact h hS
  | (i, true) :: r, b, listed, a, w, hcl, hB, hS, h => by
    simp only [preB, Bool.and_eq_true] at hB
    obtain ⟨⟨⟨_, hf⟩, hr⟩, hB'⟩ := hB
    obtain ⟨v, o, ho, hy, hk⟩ := h
    have := wpAnyG_first (Q := Calm Q) ho (Region.noSelect_spec hs) (fun c a w h => h) (r.length + n) (Ext b) listed a w hcl (Region.free_spec ho hf) (by simpa using hr) hy hS (wpAnyG_of_pre hs n r b _ _ _ (hcl.set (by simpa using hr)) hB' hS hk)
    rw [List.length_cons, Nat.succ_add]
    exact this
  | (i, false) :: r, b, listed, a, w, hcl, hB, hS, h => by
    simp only [preB, Bool.and_eq_true, beq_iff_eq] at hB
    obtain ⟨hr, hB'⟩ := hB
    rw [List.length_cons, Nat.succ_add]
    refine ⟨(fun h0 => absurd (hr.symm.trans h0) (by simp)), fun j hj => ?_⟩
    rw [hr] at hj
    obtain rfl : j = i := by simpa using hj
    exact wpOp_mono (fun a' w' ⟨hx, hk⟩ => ⟨Ext w', .inl fun _ hy => hx.trans hy, Ext.refl _, wpAnyG_of_pre hs n r w' _ _ _ (hcl.set (by rw [hr]; simp)) hB' (Ext.refl _) hk⟩) h

section
variable {K : World → Act → World → Prop} {i : Nat} {o : Oper} {r : List (Nat × Bool)} {a : Act} {b w : World} {v : Value}
theorem extK_nil (h : K b a w) : wpExtK P l Q K [] b a w := h
theorem extK_take (ho : nth l i = some o) (hw : Region.wanted o (yielded l.toArray a.tmps) = true) (h : ∀ w', Ext b w' → (execOp a.eval o).run P w' = .ok (.value v) w')
    (k : wpExtK P l Q K r b (a.put o.dst v) w) : wpExtK P l Q K ((i, true) :: r) b a w := ⟨v, o, nth_get ho, .inl ⟨hw, h⟩, k⟩
theorem extK_move {x : Operand} (ho : nth l i = some o) (hop : o.op = .move x) (hw : Region.wanted o (yielded l.toArray a.tmps) = true) (hv : evalL a x = some v)
    (k : wpExtK P l Q K r b (a.put o.dst v) w) : wpExtK P l Q K ((i, true) :: r) b a w := extK_take ho hw (fun w' _ => by unfold execOp; rw [hop, ← evalL_eq hv]; rfl) k
theorem extK_assign {x : Operand} (ho : nth l i = some o) (hop : o.op = .assign x) (hw : Region.wanted o (yielded l.toArray a.tmps) = true) (hv : evalL a x = some v)
    (k : wpExtK P l Q K r b (a.put o.dst v) w) : wpExtK P l Q K ((i, true) :: r) b a w := extK_take ho hw (fun w' _ => by unfold execOp; rw [hop, ← evalL_eq hv]; rfl) k
theorem extK_pick_t {c x y : Operand} (ho : nth l i = some o) (hop : o.op = .pick c x y) (hw : Region.wanted o (yielded l.toArray a.tmps) = true) (hc : evalL a c = some (.bool true)) (hv : evalL a x = some v)
    (k : wpExtK P l Q K r b (a.put o.dst v) w) : wpExtK P l Q K ((i, true) :: r) b a w := extK_take ho hw (fun w' _ => by unfold execOp; rw [hop, ← evalL_eq hv]; simp only [evalL_eq hc]; rfl) k
theorem extK_pick_f {c x y : Operand} (ho : nth l i = some o) (hop : o.op = .pick c x y) (hw : Region.wanted o (yielded l.toArray a.tmps) = true) (hc : evalL a c = some (.bool false)) (hv : evalL a y = some v)
    (k : wpExtK P l Q K r b (a.put o.dst v) w) : wpExtK P l Q K ((i, true) :: r) b a w := extK_take ho hw (fun w' _ => by unfold execOp; rw [hop, ← evalL_eq hv]; simp only [evalL_eq hc]; rfl) k
theorem extK_pass (ho : nth l i = some o) (hw : Region.wanted o (yielded l.toArray a.tmps) = false)
    (k : wpExtK P l Q K r b (a.put o.dst undef) w) : wpExtK P l Q K ((i, true) :: r) b a w := ⟨undef, o, nth_get ho, .inr ⟨hw, rfl⟩, k⟩
theorem extK_passE (ho : nth l i = some o) (hw : Region.wanted o (yielded l.toArray a.tmps) = false) (hb : Ext b w)
    (k : wpExtK P l Q K r w (a.put o.dst undef) w) : wpExtK P l Q K ((i, false) :: r) b a w := by
  show wpOp _ _ _ _ _ _ _
  unfold wpOp; rw [nth_get ho]; simp only [hw]
  exact ⟨hb, k⟩
theorem extK_do (ho : nth l i = some o) (hw : Region.wanted o (yielded l.toArray a.tmps) = true)
    (k : ∀ K' : Act → World → Prop, (∀ a' w', Ext b w' → wpExtK P l Q K r w' a' w' → K' a' w') → o.wp P a w K' (Calm Q)) : wpExtK P l Q K ((i, false) :: r) b a w := by
  show wpOp _ _ _ _ _ _ _
  exact opT_do hw ho (k _ fun a' w' h1 h2 => ⟨h1, h2⟩)
end
theorem G_strong {ops : Array Oper} {Q : Exit → Act → World → Prop} {md : Region.Mode} {S S' : World → Prop} (h : ∀ x, S' x → S x) : ∀ (fuel : Nat) (listed : Array Bool) (a : Act) (w : World), wpAnyG P md ops Q fuel S' listed a w → wpAnyG P md ops Q fuel S listed a w
  | 0, _, _, _, k => k
  | fuel + 1, _, _, _, k => ⟨k.1, fun i hi => wpOp_mono (fun _ _ ⟨S2, hs, h1, h2⟩ => ⟨S2, hs.imp (fun hs x hx => h x (hs x hx)) id, h1, h2⟩) (k.2 i hi)⟩

/-- what is to be shown of the operations M of which several may come up -/
structure Par (P : Program) (l : List Oper) (Q : Exit → Act → World → Prop) (M : List (Nat × Nat)) (deps : List (Nat × List Nat)) (fr : List Nat) (rest : List (Nat × Bool)) (p : Nat → List Value → Value → World → Prop) (b : World) (a : Act) : Prop where
  stay : ParAll (M.map (·.1)) fun i => ∀ u v x y, Ext x y → p i u v x → p i u v y
  step : ParAll (M.map (·.1)) fun i => ∀ vals w, Ext b w → ParAll (depsOf deps i) (fun j => said (depsOf deps) p vals j w) →
    ∃ o, nth l i = some o ∧ Region.wanted o (yielded l.toArray (laidT M vals a).tmps) = true ∧
      ∀ K : Act → World → Prop, (∀ v w', Ext w w' → p i ((depsOf deps i).map vals) v w' → (fr.contains i = true → ∀ g, ownB v = some g → w.heap.size ≤ g ∧ g < w'.heap.size) → K ((laidT M vals a).put o.dst v) w') → o.wp P (laidT M vals a) w K (Calm Q)
  last : ∀ vals w, Ext b w → ParAll (M.map (·.1)) (fun i => said (depsOf deps) p vals i w) →
    (∀ i ∈ fr, i ∈ M.map (·.1) → ∀ g, ownB (vals i) = some g → b.heap.size ≤ g ∧ g < w.heap.size) →
    (∀ i ∈ fr, i ∈ M.map (·.1) → ∀ j ∈ fr, j ∈ M.map (·.1) → i ≠ j → ∀ g, ownB (vals i) = some g → ownB (vals j) ≠ some g) → wpExt P l Q rest w (laidT M vals a) w

theorem wpExtK_mono {K K' : World → Act → World → Prop} (h : ∀ b a w, K b a w → K' b a w) : ∀ (r : List (Nat × Bool)) (b : World) (a : Act) (w : World), wpExtK P l Q K r b a w → wpExtK P l Q K' r b a w
  | [], _, _, _, k => h _ _ _ k
  | (_, true) :: r, _, _, _, ⟨v, o, ho, hy, k⟩ => ⟨v, o, ho, hy, wpExtK_mono h r _ _ _ k⟩
  | (_, false) :: r, _, _, _, k => wpOp_mono (fun _ _ ⟨hx, k⟩ => ⟨hx, wpExtK_mono h r _ _ _ k⟩) k
theorem wp_region_par {id : Nat} {a : Act} {w : World} (pre : List (Nat × Bool)) (M : List (Nat × Nat)) (deps : List (Nat × List Nat)) (fr : List Nat) (rest : List (Nat × Bool)) (hm : P.follows .mixedOrders = true)
    (hB : parB l.toArray pre M deps rest = true)
    (h : wpExtK P l Q (fun _ a1 w1 => ∃ p, Par P l Q M deps fr rest p w1 a1) pre w a w.drew) : (Code.region id l.toArray true).wp P Q a w := by
  unfold parB at hB
  simp only [Bool.and_eq_true, beq_iff_eq] at hB
  obtain ⟨⟨⟨⟨⟨⟨⟨⟨⟨⟨⟨hsel, hpre⟩, hlt⟩, hn1⟩, hn2⟩, hdst⟩, hslot⟩, hun⟩, hfin⟩, hdep⟩, hord⟩, hlen⟩ := hB
  have hdst' : ∀ x ∈ M, ∃ o, l.toArray[x.1]? = some o ∧ o.dst = some x.2 := fun x hx => by
    have := List.all_eq_true.1 hdst x hx
    unfold dstIs at this
    cases ho : l.toArray[x.1]? with
    | none => rw [ho] at this; cases this
    | some o =>
      rw [ho] at this
      refine ⟨o, rfl, ?_⟩
      cases hd : o.dst with
      | none => simp [hd] at this
      | some t => simp [hd] at this; rw [this]
  have hsl : ∀ x ∈ M, slotOf M x.1 = some x.2 := fun x hx => by simpa using List.all_eq_true.1 hslot x hx
  have hND := nodupB_iff hn1
  have hlaid := fun vals a => laid_T (slotOf M) M vals a hsl
  have hfin' : ∀ k, (setAll (pre.map (·.1)) (Array.replicate l.toArray.size false)).getD k true = false → k ∉ M.map (·.1) → ∀ m ∈ M.map (·.1), bef .any l.toArray l.toArray.size m k = true := by
    intro k h0 hk m hm
    have hks : k < l.toArray.size := by
      rcases Nat.lt_or_ge k l.toArray.size with h' | h'
      · exact h'
      · have hsz := setAll_size (pre.map (·.1)) (Array.replicate l.toArray.size false)
        simp only [Array.size_replicate] at hsz
        rw [Array.getD_eq_getD_getElem?, Array.getElem?_eq_none (by omega)] at h0
        cases h0
    have := List.all_eq_true.1 hfin k (List.mem_range.2 hks)
    simp only [Bool.or_eq_true, h0, List.contains_iff_mem] at this
    rcases this with (h1 | h1) | h1
    · cases h1
    · exact absurd h1 hk
    · exact List.all_eq_true.1 h1 m hm
  have hlt' : ∀ k o, l.toArray[k]? = some o → ∀ e ∈ o.after, Region.binds .any e = true → e.on < k := by
    intro k o ho e he hb
    have hks : k < l.toArray.size := (Array.getElem?_eq_some_iff.1 ho).1
    have := List.all_eq_true.1 hlt k (List.mem_range.2 hks)
    simp only [ho, Array.all_eq_true'] at this
    have := this e he
    simpa [hb] using this
  have hpd' : ∀ i ∈ M.map (·.1), ∀ j ∈ depsOf deps i, j ∈ M.map (·.1) ∧ bef .any l.toArray l.toArray.size j i = true := fun i hi j hj => by
    have := List.all_eq_true.1 (List.all_eq_true.1 hdep i hi) j hj
    simpa [Bool.and_eq_true] using this
  have hd' : ∀ i ∈ M.map (·.1), ∀ j ∈ M.map (·.1), j ≠ i → slotOf M j ≠ slotOf M i := by
    intro i hi j hj hne he
    obtain ⟨x, hx, rfl⟩ := List.mem_map.1 hi
    obtain ⟨y, hy, rfl⟩ := List.mem_map.1 hj
    rw [hsl x hx, hsl y hy] at he
    have ht : y.2 = x.2 := Option.some.inj he
    have hN2 := nodupB_iff hn2
    exact hne (by rw [nodup_snd hN2 hy hx ht])
  have hcl0 : Closed .any l.toArray (setAll (pre.map (·.1)) (Array.replicate l.toArray.size false)) := setAll_closed pre _ hpre Closed.none
  have hopen : (open_ (M.map (·.1)) (setAll (pre.map (·.1)) (Array.replicate l.toArray.size false))).length = M.length := by
    have : open_ (M.map (·.1)) (setAll (pre.map (·.1)) (Array.replicate l.toArray.size false)) = M.map (·.1) := by
      unfold open_
      rw [List.filter_eq_self]
      intro i hi
      obtain ⟨x, hx, rfl⟩ := List.mem_map.1 hi
      exact List.all_eq_true.1 hun x hx
    rw [this, List.length_map]
  refine Code.wp_mono (Q := Calm Q) (fun e a w hq => ?_) (wp_region_any hm ?_)
  · cases e <;> first | exact hq | exact (hq : False).elim
  · have key := wpAny_of_G _ _ _ _ _ (wpAnyG_of_pre (P := P) (Q := Q) hsel (M.length + rest.length) pre w (Array.replicate l.toArray.size false) a w.drew Closed.none hpre (Ext.drew _) ?_)
    · rw [hlen] at key
      simpa using key
    · refine wpExtK_mono (fun b a1 w1 hP hx => ?_) pre w a w.drew h
      obtain ⟨p, hP⟩ := hP
      have := wpAnyG_par (P := P) (Q := Calm Q) (md := .any) (ops := l.toArray) (M.map (·.1)) fr (slotOf M) (depsOf deps) p w1 a1 (setAll (pre.map (·.1)) (Array.replicate l.toArray.size false)) (setAll (M.map (·.1)) (setAll (pre.map (·.1)) (Array.replicate l.toArray.size false))) rest.length
        (by rw [setAll_size]; simp) hlt' hND hd' hfin' hpd' (fun k => setAll_get _ _ _) (setAll_size _ _) (fun i hi => hP.stay.mem i hi) ?_ ?_ M.length (setAll (pre.map (·.1)) (Array.replicate l.toArray.size false)) (fun i => match slotOf M i with | some t => a1.tmps.getD t undef | none => undef) w1 hcl0 hopen rfl (fun _ _ => rfl) (Ext.refl _) ?_ ?_ ?_
      · rw [hlaid] at this
        have hself : ∀ (M' : List (Nat × Nat)) (a' : Act), (∀ x ∈ M', slotOf M x.1 = some x.2) → a'.tmps = a1.tmps → laidT M' (fun i => match slotOf M i with | some t => a1.tmps.getD t undef | none => undef) a' = a' := by
          intro M'
          induction M' with
          | nil => intro _ _ _; rfl
          | cons x r ih =>
            intro a' hx ht
            obtain ⟨i, t⟩ := x
            have h1 : slotOf M i = some t := hx (i, t) (List.mem_cons_self ..)
            have h2 : a'.put (some t) (a1.tmps.getD t undef) = a' := by
              obtain ⟨⟩ := a'
              simp only [Act.put] at *
              subst ht
              congr 1
              refine Array.ext (by simp) fun k hk1 hk2 => ?_
              by_cases e : t = k
              · subst e; simp [hk2]
              · rw [Array.getElem_setIfInBounds_ne hk2 e]
            simp only [laidT, h1, h2]
            exact ih a' (fun y hy => hx y (List.mem_cons_of_mem _ hy)) ht
        rw [hself M a1 hsl rfl] at this
        exact G_strong (fun x hx' => hx.trans hx') _ _ _ _ this
      · intro i hi vals w' hx hps
        obtain ⟨o, ho, hw, hk⟩ := hP.step.mem i hi vals w' hx (ParAll.of hps)
        have hod : o.dst = slotOf M i := by
          obtain ⟨x, hx, rfl⟩ := List.mem_map.1 hi
          obtain ⟨o', ho', hd⟩ := hdst' x hx
          rw [nth_get ho] at ho'
          cases ho'
          rw [hd, hsl x hx]
        rw [hlaid]
        refine opT_do hw ho (hk _ fun v w'' h1 h2 h3 => ⟨v, by rw [hod], h1, h2, fun hf => h3 (List.contains_iff_mem.2 hf)⟩)
      · intro vals w' hx hps hg1 hg2
        rw [hlaid]
        have h1 := hP.last vals w' hx (ParAll.of hps) hg1 hg2
        have hclE : Closed .any l.toArray (setAll (M.map (·.1)) (setAll (pre.map (·.1)) (Array.replicate l.toArray.size false))) := by
          intro m o hm ho e he hb
          have hsz : (setAll (M.map (·.1)) (setAll (pre.map (·.1)) (Array.replicate l.toArray.size false))).size = l.toArray.size := by rw [setAll_size, setAll_size]; simp
          have h2 := getD_tf hm
          have hms : m < l.toArray.size := (Array.getElem?_eq_some_iff.1 ho).1
          have hes : e.on < l.toArray.size := Nat.lt_trans (hlt' m o ho e he hb) hms
          refine getD_ft (by rw [hsz]; exact hes) ?_
          rw [setAll_get]
          by_cases hem : e.on ∈ M.map (·.1)
          · rw [if_pos hem]
          · rw [if_neg hem]
            cases hg : (setAll (pre.map (·.1)) (Array.replicate l.toArray.size false)).getD e.on true with
            | true => rfl
            | false =>
              exfalso
              have hall := hfin' e.on hg hem
              rw [setAll_get] at h2
              by_cases hmm : m ∈ M.map (·.1)
              · have hbm := hall m hmm
                -- m before e.on, and e.on before m: against the numbers
                have hmono : ∀ (f i k : Nat), bef .any l.toArray f k i = true → k < i := by
                  intro f
                  induction f with
                  | zero => intro i k h; simp [bef] at h
                  | succ f ih =>
                    intro i k h
                    simp only [bef] at h
                    cases hoi : l.toArray[i]? with
                    | none => rw [hoi] at h; cases h
                    | some oi =>
                      rw [hoi] at h
                      simp only [Array.any_eq_true] at h
                      obtain ⟨n, hn, hb'⟩ := h
                      rw [Bool.and_eq_true, Bool.or_eq_true, beq_iff_eq] at hb'
                      have h3 := hlt' i oi hoi _ (Array.getElem_mem hn) hb'.1
                      rcases hb'.2 with h4 | h4
                      · omega
                      · have := ih _ _ h4; omega
                have := hmono _ _ _ hbm
                have := hlt' m o ho e he hb
                omega
              · rw [if_neg hmm] at h2
                have hsz0 : (setAll (pre.map (·.1)) (Array.replicate l.toArray.size false)).size = l.toArray.size := by rw [setAll_size]; simp
                have h3 := hcl0 m o (getD_ft (by rw [hsz0]; exact hms) h2) ho e he hb
                rw [getD_tf h3] at hg
                cases hg
        exact G_strong (S' := Ext w') (fun x hx' => hx.trans hx') _ _ _ _ (wpAnyG_of_ord hsel (fun _ _ _ _ _ h => h) rest (Ext w') _ _ _ hclE hord (Ext.refl _) h1)
      · intro j hj hl
        obtain ⟨x, hx, rfl⟩ := List.mem_map.1 hj
        have := List.all_eq_true.1 hun x hx
        rw [hl] at this; cases this
      · intro j _ hj hl
        obtain ⟨x, hx, rfl⟩ := List.mem_map.1 hj
        have := List.all_eq_true.1 hun x hx
        rw [hl] at this; cases this
      · intro j _ hj k _ _ hl
        obtain ⟨x, hx, rfl⟩ := List.mem_map.1 hj
        have := List.all_eq_true.1 hun x hx
        rw [hl] at this; cases this
end
end Go.Proofs.Ythjcdikpomlpmaa
