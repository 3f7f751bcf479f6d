/-
  A region that draws its order, walked once, in an order that is given: what only reads is taken first, as soon as it may come up; a call, an allocation or a store where it alone may come up.
  What is known of the world ('S') is said anew, and stronger, behind each of these. No program is named here.
-/
import Derived.OrdersHeld
import Derived.WalkKit
import Derived.KernelRfl
namespace Go.Proofs.Ythjcdikpomlpmaa
open Go.RowKit

section
variable {P : Program} {ops : Array Oper} {Q : Exit → Act → World → Prop} {md : Region.Mode}

/-- k is bound to come before i (through at most f others) -/
def bef (md : Region.Mode) (ops : Array Oper) : Nat → Nat → Nat → Bool
  | 0, _, _ => false
  | f + 1, k, i => match ops[i]? with
    | some o => o.after.any fun e => Region.binds md e && (e.on == k || bef md ops f k e.on)
    | none => false
/-- every other operation is bound to come before i or behind it: nothing that may come up beside i is held over -/
def coversB (md : Region.Mode) (ops : Array Oper) (i : Nat) : Bool :=
  (List.range ops.size).all fun k => k == i || bef md ops ops.size k i || bef md ops ops.size i k
/-- what is listed has all that comes before it listed -/
def Closed (md : Region.Mode) (ops : Array Oper) (listed : Array Bool) : Prop :=
  ∀ m o, listed.getD m false = true → ops[m]? = some o → ∀ e ∈ o.after, Region.binds md e = true → listed.getD e.on false = true
theorem set_inv {listed : Array Bool} {i k : Nat} (h : (listed.setIfInBounds i true).getD k false = true) : k = i ∨ listed.getD k false = true := by
  by_cases e : k = i
  · exact .inl e
  · exact .inr (by rwa [getD_set_ne false (Ne.symm e)] at h)
theorem set_mono {listed : Array Bool} {i k : Nat} (h : listed.getD k false = true) : (listed.setIfInBounds i true).getD k false = true := by
  by_cases e : i = k
  · subst e
    have hlt : i < listed.size := by
      rcases Nat.lt_or_ge i listed.size with h' | h'
      · exact h'
      · simp [Array.getElem?_eq_none h'] at h
    simp [hlt]
  · rwa [getD_set_ne false e]
theorem Closed.set {md : Region.Mode} {ops : Array Oper} {listed : Array Bool} {i : Nat} (hc : Closed md ops listed) (hi : i ∈ Region.ready md ops listed) : Closed md ops (listed.setIfInBounds i true) := by
  intro m o hm ho e he hb
  refine set_mono ?_
  rcases set_inv hm with rfl | hm
  · obtain ⟨_, o', ho', hall⟩ := mem_ready.1 hi
    rw [ho] at ho'
    obtain rfl := Option.some.inj ho'
    exact hall e he hb
  · exact hc m o hm ho e he hb
theorem Closed.none {md : Region.Mode} {ops : Array Oper} {n : Nat} : Closed md ops (Array.replicate n false) := by
  intro m o hm
  rcases Nat.lt_or_ge m n with h | h
  · simp [h] at hm
  · simp [Array.getElem?_eq_none (show (Array.replicate n false).size ≤ m by simpa using h)] at hm
theorem bef_listed {md : Region.Mode} {ops : Array Oper} {listed : Array Bool} (hc : Closed md ops listed) {k : Nat} :
    ∀ (f i : Nat), (∀ o, ops[i]? = some o → ∀ e ∈ o.after, Region.binds md e = true → listed.getD e.on false = true) → bef md ops f k i = true → listed.getD k false = true
  | 0, _, _, h => by simp [bef] at h
  | f + 1, i, hp, h => by
    simp only [bef] at h
    cases ho : ops[i]? with
    | none => rw [ho] at h; cases h
    | some o =>
      rw [ho] at h
      simp only [Array.any_eq_true] at h
      obtain ⟨n, hn, hb⟩ := h
      rw [Bool.and_eq_true, Bool.or_eq_true, beq_iff_eq] at hb
      have hl := hp o ho _ (Array.getElem_mem hn) hb.1
      rcases hb.2 with h1 | h1
      · rw [h1] at hl; exact hl
      · exact bef_listed hc f _ (fun o' ho' e he hbe => hc _ o' hl ho' e he hbe) h1
theorem ready_preds {md : Region.Mode} {ops : Array Oper} {i : Nat} {listed : Array Bool} (hi : i ∈ Region.ready md ops listed) : ∀ o, ops[i]? = some o → ∀ e ∈ o.after, Region.binds md e = true → listed.getD e.on false = true := by
  intro o ho e he hb
  obtain ⟨_, o', ho', hall⟩ := mem_ready.1 hi
  rw [ho] at ho'
  obtain rfl := Option.some.inj ho'
  exact hall e he hb
theorem ready_not {md : Region.Mode} {ops : Array Oper} {i : Nat} {listed : Array Bool} (hi : i ∈ Region.ready md ops listed) (h1 : listed.getD i false = true) : False := by
  have h0 := (mem_ready.1 hi).1
  rcases Nat.lt_or_ge i listed.size with h' | h'
  · simp [h'] at h0 h1; rw [h0] at h1; cases h1
  · simp [Array.getElem?_eq_none h'] at h1
theorem covers_alone {i j : Nat} {listed : Array Bool} (hcl : Closed md ops listed) (h : coversB md ops j = true) (hj : j ∈ Region.ready md ops listed) (hi : i ∈ Region.ready md ops listed) (hne : i ≠ j) : False := by
  obtain ⟨_, p, hp, _⟩ := mem_ready.1 hi
  have hil : i < ops.size := (Array.getElem?_eq_some_iff.1 hp).1
  unfold coversB at h
  simp only [List.all_eq_true, List.mem_range, Bool.or_eq_true, beq_iff_eq] at h
  rcases h i hil with (h | h) | h
  · exact hne h
  · exact ready_not hi (bef_listed hcl _ _ (ready_preds hj) h)
  · exact ready_not hj (bef_listed hcl _ _ (ready_preds hi) h)

def wpAnyG (P : Program) (md : Region.Mode) (ops : Array Oper) (Q : Exit → Act → World → Prop) : Nat → (World → Prop) → Array Bool → Act → World → Prop
  | 0, _, listed, a, w => Region.ready md ops listed = [] ∧ Q .normal a w
  | fuel + 1, S, listed, a, w =>
    (Region.ready md ops listed = [] → Q .normal a w) ∧
    ∀ i ∈ Region.ready md ops listed, wpOp P ops Q i (fun a' w' => ∃ S' : World → Prop, ((∀ x, S' x → S x) ∨ coversB md ops i = true) ∧ S' w' ∧ wpAnyG P md ops Q fuel S' (listed.setIfInBounds i true) a' w') a w

theorem wpAny_of_G : ∀ (fuel : Nat) (S : World → Prop) (listed : Array Bool) (a : Act) (w : World), wpAnyG P md ops Q fuel S listed a w → wpAny P md ops Q fuel listed a w
  | 0, _, _, _, _, h => h
  | fuel + 1, _, _, _, _, h => ⟨h.1, fun i hi => wpOp_mono (fun a' w' ⟨S', _, _, h'⟩ => wpAny_of_G fuel S' _ a' w' h') (h.2 i hi)⟩

theorem YieldsIf.weaken {S S' : World → Prop} {o : Oper} {v : Value} {a : Act} (h : YieldsIf P ops S o v a) (hs : ∀ x, S' x → S x) : YieldsIf P ops S' o v a :=
  h.imp (fun ⟨hw, hv⟩ => ⟨hw, fun w hw' => hv w (hs w hw')⟩) id

theorem wpAnyG_first {i : Nat} {oi : Oper} {v : Value} (hi : ops[i]? = some oi) (hsel : ∀ (j : Nat) (o : Oper) cs b, ops[j]? = some o → o.op ≠ .select cs b)
    (hQ : ∀ c a w, Q (.panic c) (a.put oi.dst v) w → Q (.panic c) a w) :
    ∀ (fuel : Nat) (S : World → Prop) (listed : Array Bool) (a : Act) (w : World), Closed md ops listed →
      (∀ j oj, ops[j]? = some oj → j ≠ i → listed.getD j true = false → (∀ e ∈ oj.after, Region.binds md e = true → e.on ≠ i) → oi.apart ops oj = true) →
      i ∈ Region.ready md ops listed → YieldsIf P ops S oi v a → S w →
      wpAnyG P md ops Q fuel S (listed.setIfInBounds i true) (a.put oi.dst v) w → wpAnyG P md ops Q (fuel + 1) S listed a w := by
  intro fuel
  induction fuel with
  | zero =>
    intro S listed a w _ _ hr hy hS H
    refine ⟨fun h => (by rw [h] at hr; cases hr), fun j hj => ?_⟩
    by_cases hji : j = i
    · subst hji; exact hy.wpOp hi hS ⟨S, .inl fun _ h => h, hS, H⟩
    · have := ready_mono hj hji
      rw [H.1] at this
      cases this
  | succ fuel ih =>
    intro S listed a w hcl hfree hr hy hS H
    refine ⟨fun h => (by rw [h] at hr; cases hr), fun j hj => ?_⟩
    by_cases hji : j = i
    · subst hji; exact hy.wpOp hi hS ⟨S, .inl fun _ h => h, hS, H⟩
    · have h1 := H.2 j (ready_mono hj hji)
      obtain ⟨hjun, oj, hoj, hall⟩ := mem_ready.1 hj
      have hnot : ∀ e ∈ oj.after, Region.binds md e = true → e.on ≠ i := fun e he hb heq => by
        have h1 := hall e he hb
        have h0 := (mem_ready.1 hr).1
        rw [heq] at h1
        rcases Nat.lt_or_ge i listed.size with h' | h'
        · simp [h'] at h0 h1; rw [h0] at h1; cases h1
        · simp [Array.getElem?_eq_none h'] at h1
      have h2 := wpOp_putIf hoj (hfree j oj hoj hji hjun hnot) (fun cs b => hsel i oi cs b hi) (fun cs b => hsel j oj cs b hoj) hQ hy h1
      have hfree' : ∀ k ok, ops[k]? = some ok → k ≠ i → (listed.setIfInBounds j true).getD k true = false →
          (∀ e ∈ ok.after, Region.binds md e = true → e.on ≠ i) → oi.apart ops ok = true := fun k ok hk hki hun hno => by
        refine hfree k ok hk hki ?_ hno
        by_cases hjk : j = k
        · subst hjk; exact hjun
        · rw [getD_set_ne true hjk] at hun; exact hun
      refine wpOp_mono (fun a' w' h3 => ?_) h2
      obtain ⟨hy', S', hs, hS', h4⟩ := h3
      have hs : ∀ x, S' x → S x := by
        rcases hs with hs | hc
        · exact hs
        · exact (covers_alone hcl hc hj hr (Ne.symm hji)).elim
      refine ⟨S', .inl hs, hS', ih S' (listed.setIfInBounds j true) a' w' (hcl.set hj) hfree' (ready_mono hr (Ne.symm hji)) (YieldsIf.weaken hy' hs) hS' ?_⟩
      rw [Array.setIfInBounds_comm _ _ hji]
      exact h4

/-- The order that is given: a number with 'true' is taken first, a number with 'false' is the only one that may come up. -/
def ordB (md : Region.Mode) (ops : Array Oper) : List (Nat × Bool) → Array Bool → Bool
  | [], listed => (Region.ready md ops listed).isEmpty
  | (i, true) :: r, listed => (ops[i]?).isSome && Region.free md ops listed i && (Region.ready md ops listed).contains i && ordB md ops r (listed.setIfInBounds i true)
  | (i, false) :: r, listed => (Region.ready md ops listed == [i]) && ordB md ops r (listed.setIfInBounds i true)

def wpOrd (P : Program) (ops : Array Oper) (Q : Exit → Act → World → Prop) : List (Nat × Bool) → (World → Prop) → Act → World → Prop
  | [], _, a, w => Q .normal a w
  | (i, true) :: r, S, a, w => ∃ v o, ops[i]? = some o ∧ YieldsIf P ops S o v a ∧ wpOrd P ops Q r S (a.put o.dst v) w
  | (i, false) :: r, S, a, w => wpOp P ops Q i (fun a' w' => ∃ S' : World → Prop, ((∀ x, S' x → S x) ∨ coversB .any ops i = true) ∧ S' w' ∧ wpOrd P ops Q r S' a' w') a w

/-- Q, but False where the region is left otherwise than by its end. -/
def Calm (Q : Exit → Act → World → Prop) : Exit → Act → World → Prop
  | .normal, a, w => Q .normal a w
  | _, _, _ => False

theorem wpAnyG_of_ord (hs : Region.noSelect ops = true) (hQ : ∀ c a (d : Option Tmp) v w, Q (.panic c) (a.put d v) w → Q (.panic c) a w) : ∀ (ord : List (Nat × Bool)) (S : World → Prop) (listed : Array Bool) (a : Act) (w : World),
    Closed .any ops listed → ordB .any ops ord listed = true → S w → wpOrd P ops Q ord S a w → wpAnyG P .any ops Q ord.length S listed a w
  | [], S, listed, a, w, _, hB, _, h => ⟨by simpa [ordB] using hB, h⟩
  | (i, true) :: r, S, listed, a, w, hcl, hB, hS, h => by
    simp only [ordB, Bool.and_eq_true] at hB
    obtain ⟨⟨⟨_, hf⟩, hr⟩, hB'⟩ := hB
    obtain ⟨v, o, ho, hy, hk⟩ := h
    exact wpAnyG_first ho (Region.noSelect_spec hs) (fun c a w => hQ c a _ v w) r.length S listed a w hcl (Region.free_spec ho hf) (by simpa using hr) hy hS (wpAnyG_of_ord hs hQ r S _ _ _ (hcl.set (by simpa using hr)) hB' hS hk)
  | (i, false) :: r, S, listed, a, w, hcl, hB, hS, h => by
    simp only [ordB, Bool.and_eq_true, beq_iff_eq] at hB
    obtain ⟨hr, hB'⟩ := hB
    refine ⟨(fun h0 => absurd (hr.symm.trans h0) (by simp)), fun j hj => ?_⟩
    rw [hr] at hj
    obtain rfl : j = i := by simpa using hj
    exact wpOp_mono (fun a' w' ⟨S', hs', hS', hk⟩ => ⟨S', hs', hS', wpAnyG_of_ord hs hQ r S' _ _ _ (hcl.set (by rw [hr]; simp)) hB' hS' hk⟩) h

theorem wp_region_ord {id : Nat} {a : Act} {w : World} {l : List Oper} (ord : List (Nat × Bool)) (S : World → Prop) (hm : P.follows .mixedOrders = true)
    (hB : (Region.noSelect l.toArray && ordB .any l.toArray ord (Array.replicate l.length false) && (ord.length == l.length)) = true)
    (hS : S w.drew) (h : wpOrd P l.toArray (Calm Q) ord S a w.drew) : (Code.region id l.toArray true).wp P Q a w := by
  simp only [Bool.and_eq_true, beq_iff_eq] at hB
  obtain ⟨⟨h1, h2⟩, h3⟩ := hB
  refine Code.wp_mono (Q := Calm Q) (fun e a w hq => ?_) (wp_region_any hm ?_)
  · cases e <;> first | exact hq | exact (hq : False).elim
  · have := wpAny_of_G _ _ _ _ _ (wpAnyG_of_ord h1 (fun _ _ _ _ _ h => h) ord S _ a _ Closed.none h2 hS h)
    rw [h3] at this
    simpa using this

variable {i : Nat} {o : Oper} {r : List (Nat × Bool)} {S : World → Prop} {a : Act} {w : World} {v : Value}

theorem ord_nil (h : Q .normal a w) : wpOrd P ops (Calm Q) [] S a w := h

/-- taken first: it yields v in every world that meets S -/
theorem ord_take (ho : ops[i]? = some o) (hw : Region.wanted o (yielded ops a.tmps) = true) (h : ∀ w', S w' → (execOp a.eval o).run P w' = .ok (.value v) w')
    (k : wpOrd P ops Q r S (a.put o.dst v) w) : wpOrd P ops Q ((i, true) :: r) S a w := ⟨v, o, ho, .inl ⟨hw, h⟩, k⟩
theorem ord_pass (ho : ops[i]? = some o) (hw : Region.wanted o (yielded ops a.tmps) = false)
    (k : wpOrd P ops Q r S (a.put o.dst undef) w) : wpOrd P ops Q ((i, true) :: r) S a w := ⟨undef, o, ho, .inr ⟨hw, rfl⟩, k⟩
theorem ord_passE (ho : ops[i]? = some o) (hw : Region.wanted o (yielded ops a.tmps) = false) (hS : S w)
    (k : wpOrd P ops Q r S (a.put o.dst undef) w) : wpOrd P ops Q ((i, false) :: r) S a w := by
  show wpOp _ _ _ _ _ _ _
  unfold wpOp; rw [ho]; simp only [hw]
  exact ⟨S, .inl fun _ h => h, hS, k⟩
/-- carried out where it alone may come up -/
theorem ord_do (ho : ops[i]? = some o) (hw : Region.wanted o (yielded ops a.tmps) = true)
    (k : ∀ K : Act → World → Prop, (∀ (S' : World → Prop) a' w', ((∀ x, S' x → S x) ∨ coversB .any ops i = true) → S' w' → wpOrd P ops Q r S' a' w' → K a' w') → o.wp P a w K Q) : wpOrd P ops Q ((i, false) :: r) S a w := by
  show wpOp _ _ _ _ _ _ _
  unfold wpOp; rw [ho]; simp only [hw, if_true]
  exact .inl (k _ fun S' _ _ h1 h2 h3 => ⟨S', h1, h2, h3⟩)

end

/-- slot t, so that 'rfl' finds it written out -/
def nthV : List Value → Nat → Option Value
  | [], _ => none
  | v :: _, 0 => some v
  | _ :: r, i + 1 => nthV r i
theorem nthV_get {l : List Value} {i : Nat} {v : Value} (h : nthV l i = some v) : l[i]? = some v := by
  induction l generalizing i with
  | nil => simp [nthV] at h
  | cons x r ih =>
    cases i with
    | zero => simpa [nthV] using h
    | succ i => simpa [nthV] using ih h
/-- an operand's value, so that 'rfl' finds it written out -/
def evalL (a : Act) : Operand → Option Value
  | .tmp t => nthV a.tmps.toList t
  | .const c => some c
  | _ => none
theorem evalL_eq {a : Act} {x : Operand} {v : Value} (h : evalL a x = some v) : a.eval x = v := by
  cases x <;> simp only [evalL] at h
  · have := nthV_get h
    rw [Array.getElem?_toList] at this
    simp only [Act.eval]
    rw [Array.getD_eq_getD_getElem?, this]; rfl
  · exact Option.some.inj h
  all_goals cases h

/-! ### The condition 'all that was there is there still' -/
/-- w' has all that w has. -/
def Ext (w w' : World) : Prop := Below w.heap.size w w'
theorem Ext.below {w w' : World} (h : Ext w w') : Below w.heap.size w w' := h
theorem Ext.refl (w : World) : Ext w w := Below.refl _ _
theorem Ext.trans {a b c : World} (h : Ext a b) (k : Ext b c) : Ext a c := Below.trans h (Below.mono k (Below.size h))
theorem Ext.alloc (w : World) (o : Obj) : Ext w (w.alloc o) := (Below.refl _ _).alloc (Nat.le_refl _) _
theorem Ext.drew (w : World) : Ext w w.drew := (Below.refl _ _).drew
theorem Ext.cell {w w' : World} (h : Ext w w') (b o : Nat) (hb : b < w.heap.size) : w'.cell? ⟨b, o, none⟩ = w.cell? ⟨b, o, none⟩ := Below.cell (p := ⟨b, o, none⟩) h hb
theorem Ext.frozen {w w' : World} (h : Ext w w') (b o : Nat) (hb : b < w.heap.size) : w'.frozen? ⟨b, o, none⟩ = w.frozen? ⟨b, o, none⟩ := Below.frozen (p := ⟨b, o, none⟩) h hb
theorem Ext.cells {w w' : World} (h : Ext w w') : ∀ b o, b < w.heap.size → w'.cell? ⟨b, o, none⟩ = w.cell? ⟨b, o, none⟩ := h.cell
theorem Ext.frozens {w w' : World} (h : Ext w w') : ∀ b o, b < w.heap.size → w'.frozen? ⟨b, o, none⟩ = w.frozen? ⟨b, o, none⟩ := h.frozen

theorem results_tmp4 {fn : Func} {t u v x : Tmp} (h : fn.results = #[.tmp t, .tmp u, .tmp v, .tmp x]) (tmps : Array Value) (P : Program) (w : World) :
    (results fn tmps).run P w = .ok (.tuple #[tmps.getD t undef, tmps.getD u undef, tmps.getD v undef, tmps.getD x undef]) w := by
  simp [results, h]
theorem i64_id (x : Int) (h : -9223372036854775808 ≤ x ∧ x ≤ 9223372036854775807) : IntKind.i64.wrap x = x := by
  simp only [IntKind.wrap, IntKind.bits, IntKind.signed]; simp; omega
theorem u64_id (x : Int) (h : 0 ≤ x ∧ x ≤ 18446744073709551615) : IntKind.u64.wrap x = x := by
  simp only [IntKind.wrap, IntKind.bits, IntKind.signed]; simp; omega
/-- operation number i, so that 'rfl' finds it written out -/
def nth : List Oper → Nat → Option Oper
  | [], _ => none
  | o :: _, 0 => some o
  | _ :: r, i + 1 => nth r i
theorem nth_get {l : List Oper} {i : Nat} {o : Oper} (h : nth l i = some o) : l.toArray[i]? = some o := by
  rw [List.getElem?_toArray]
  induction l generalizing i with
  | nil => simp [nth] at h
  | cons x r ih =>
    cases i with
    | zero => simpa [nth] using h
    | succ i => simpa [nth] using ih h

section
variable {P : Program} {l : List Oper} {Q : Exit → Act → World → Prop} {i : Nat} {o : Oper} {r : List (Nat × Bool)} {a : Act} {b w : World} {v : Value}
/-- the rest of a region, all that b has being there still; w: the world at hand -/
def wpExt (P : Program) (l : List Oper) (Q : Exit → Act → World → Prop) (r : List (Nat × Bool)) (b : World) (a : Act) (w : World) : Prop := wpOrd P l.toArray (Calm Q) r (Ext b) a w

theorem wp_region_ext {id : Nat} (ord : List (Nat × Bool)) (hm : P.follows .mixedOrders = true)
    (hB : (Region.noSelect l.toArray && ordB .any l.toArray ord (Array.replicate l.length false) && (ord.length == l.length)) = true)
    (h : wpExt P l Q ord w a w.drew) : (Code.region id l.toArray true).wp P Q a w := wp_region_ord ord (Ext w) hm hB (Ext.drew _) h
theorem ext_nil (h : Q .normal a w) : wpExt P l Q [] b a w := h
theorem ext_take (ho : nth l i = some o) (hw : Region.wanted o (yielded l.toArray a.tmps) = true) (h : ∀ w', Ext b w' → (execOp a.eval o).run P w' = .ok (.value v) w')
    (k : wpExt P l Q r b (a.put o.dst v) w) : wpExt P l Q ((i, true) :: r) b a w := ord_take (nth_get ho) hw h k
theorem ext_move {x : Operand} (ho : nth l i = some o) (hop : o.op = .move x) (hw : Region.wanted o (yielded l.toArray a.tmps) = true) (hv : evalL a x = some v)
    (k : wpExt P l Q r b (a.put o.dst v) w) : wpExt P l Q ((i, true) :: r) b a w := ord_take (nth_get ho) hw (fun w' _ => by unfold execOp; rw [hop, ← evalL_eq hv]; rfl) k
theorem ext_assign {x : Operand} (ho : nth l i = some o) (hop : o.op = .assign x) (hw : Region.wanted o (yielded l.toArray a.tmps) = true) (hv : evalL a x = some v)
    (k : wpExt P l Q r b (a.put o.dst v) w) : wpExt P l Q ((i, true) :: r) b a w := ord_take (nth_get ho) hw (fun w' _ => by unfold execOp; rw [hop, ← evalL_eq hv]; rfl) k
theorem ext_pick_t {c x y : Operand} (ho : nth l i = some o) (hop : o.op = .pick c x y) (hw : Region.wanted o (yielded l.toArray a.tmps) = true) (hc : evalL a c = some (.bool true)) (hv : evalL a x = some v)
    (k : wpExt P l Q r b (a.put o.dst v) w) : wpExt P l Q ((i, true) :: r) b a w := ord_take (nth_get ho) hw (fun w' _ => by unfold execOp; rw [hop, ← evalL_eq hv]; simp only [evalL_eq hc]; rfl) k
theorem ext_pick_f {c x y : Operand} (ho : nth l i = some o) (hop : o.op = .pick c x y) (hw : Region.wanted o (yielded l.toArray a.tmps) = true) (hc : evalL a c = some (.bool false)) (hv : evalL a y = some v)
    (k : wpExt P l Q r b (a.put o.dst v) w) : wpExt P l Q ((i, true) :: r) b a w := ord_take (nth_get ho) hw (fun w' _ => by unfold execOp; rw [hop, ← evalL_eq hv]; simp only [evalL_eq hc]; rfl) k
theorem ext_pass (ho : nth l i = some o) (hw : Region.wanted o (yielded l.toArray a.tmps) = false)
    (k : wpExt P l Q r b (a.put o.dst undef) w) : wpExt P l Q ((i, true) :: r) b a w := ord_pass (nth_get ho) hw k
theorem ext_passE (ho : nth l i = some o) (hw : Region.wanted o (yielded l.toArray a.tmps) = false) (hb : Ext b w)
    (k : wpExt P l Q r b (a.put o.dst undef) w) : wpExt P l Q ((i, false) :: r) b a w := ord_passE (nth_get ho) hw hb k
theorem ext_do (ho : nth l i = some o) (hw : Region.wanted o (yielded l.toArray a.tmps) = true)
    (k : ∀ K : Act → World → Prop, (∀ a' w', Ext b w' → wpExt P l Q r w' a' w' → K a' w') → o.wp P a w K (Calm Q)) : wpExt P l Q ((i, false) :: r) b a w :=
  ord_do (nth_get ho) hw fun K hK => k K fun a' w' h1 h2 => hK (Ext w') a' w' (.inl fun _ hx => h1.trans hx) (Ext.refl _) h2
/-- a last operation that nothing is held over behind: it may change what was there -/
theorem ext_last (ho : nth l i = some o) (hw : Region.wanted o (yielded l.toArray a.tmps) = true) (hc : coversB .any l.toArray i = true)
    (k : ∀ K : Act → World → Prop, (∀ a' w', Q .normal a' w' → K a' w') → o.wp P a w K (Calm Q)) : wpExt P l Q [(i, false)] b a w :=
  ord_do (nth_get ho) hw fun K hK => k K fun a' w' h2 => hK (fun _ => True) a' w' (.inr hc) trivial h2
/-- a store beside which nothing may come up: it may change what was there -/
theorem ext_store (ho : nth l i = some o) (hw : Region.wanted o (yielded l.toArray a.tmps) = true) (hc : coversB .any l.toArray i = true)
    (k : ∀ K : Act → World → Prop, (∀ a' w', wpExt P l Q r w' a' w' → K a' w') → o.wp P a w K (Calm Q)) : wpExt P l Q ((i, false) :: r) b a w :=
  ord_do (nth_get ho) hw fun K hK => k K fun a' w' h2 => hK (Ext w') a' w' (.inr hc) (Ext.refl _) h2
/-- a call of a Go function of the program whose contract says that all that was there is there still -/
theorem ext_call {f : FuncId} {args : Array Value} {R : Value → World → Prop} (ho : nth l i = some o) (hw : Region.wanted o (yielded l.toArray a.tmps) = true) (hb : Ext b w)
    (hrun : (execOp a.eval o).run P w = .ok (.enter f args) w) (hc : Calls P f args w fun e w' => ∃ v, e = .returned v ∧ Ext w w' ∧ R v w')
    (k : ∀ v w', Ext w w' → R v w' → wpExt P l Q r w' (a.put o.dst v) w') : wpExt P l Q ((i, false) :: r) b a w :=
  ext_do ho hw fun K hK => by
    unfold Oper.wp; rw [hrun]
    exact hc.mono fun e w' ⟨v, he, h1, h2⟩ => by subst he; exact hK _ _ (hb.trans h1) (k v w' h1 h2)
end

/-! ### No condition on the world: nothing that is taken first reads memory -/
section
variable {P : Program} {l : List Oper} {Q : Exit → Act → World → Prop} {i : Nat} {o : Oper} {r : List (Nat × Bool)} {a : Act} {w : World} {v : Value}
def wpTru (P : Program) (l : List Oper) (Q : Exit → Act → World → Prop) (r : List (Nat × Bool)) (a : Act) (w : World) : Prop := wpOrd P l.toArray (Calm Q) r (fun _ => True) a w
theorem wp_region_tru {id : Nat} (ord : List (Nat × Bool)) (hm : P.follows .mixedOrders = true)
    (hB : (Region.noSelect l.toArray && ordB .any l.toArray ord (Array.replicate l.length false) && (ord.length == l.length)) = true)
    (h : wpTru P l Q ord a w.drew) : (Code.region id l.toArray true).wp P Q a w := wp_region_ord ord (fun _ => True) hm hB trivial h
theorem tru_nil (h : Q .normal a w) : wpTru P l Q [] a w := h
theorem tru_take (ho : nth l i = some o) (hw : Region.wanted o (yielded l.toArray a.tmps) = true) (h : ∀ w', (execOp a.eval o).run P w' = .ok (.value v) w')
    (k : wpTru P l Q r (a.put o.dst v) w) : wpTru P l Q ((i, true) :: r) a w := ord_take (nth_get ho) hw (fun w' _ => h w') k
theorem tru_move {x : Operand} (ho : nth l i = some o) (hop : o.op = .move x) (hw : Region.wanted o (yielded l.toArray a.tmps) = true) (hv : evalL a x = some v)
    (k : wpTru P l Q r (a.put o.dst v) w) : wpTru P l Q ((i, true) :: r) a w := ord_take (nth_get ho) hw (fun w' _ => by unfold execOp; rw [hop, ← evalL_eq hv]; rfl) k
theorem tru_pass (ho : nth l i = some o) (hw : Region.wanted o (yielded l.toArray a.tmps) = false)
    (k : wpTru P l Q r (a.put o.dst undef) w) : wpTru P l Q ((i, true) :: r) a w := ord_pass (nth_get ho) hw k
theorem tru_do (ho : nth l i = some o) (hw : Region.wanted o (yielded l.toArray a.tmps) = true)
    (k : ∀ K : Act → World → Prop, (∀ a' w', wpTru P l Q r a' w' → K a' w') → o.wp P a w K (Calm Q)) : wpTru P l Q ((i, false) :: r) a w :=
  ord_do (nth_get ho) hw fun K hK => k K fun a' w' h => hK (fun _ => True) a' w' (.inl fun _ _ => trivial) trivial h
end

theorem below_cellsB {B : Nat} {w w' : World} (h : Below B w w') : ∀ b o, b < B → w'.cell? ⟨b, o, none⟩ = w.cell? ⟨b, o, none⟩ := fun b o hb => h.cell (p := ⟨b, o, none⟩) hb

/-! ### All below block B is as it was: stores into the call's own blocks are let by -/
section
variable {P : Program} {l : List Oper} {Q : Exit → Act → World → Prop} {i : Nat} {o : Oper} {r : List (Nat × Bool)} {B : Nat} {b : World} {a : Act} {w : World} {v : Value}
def wpBel (P : Program) (l : List Oper) (Q : Exit → Act → World → Prop) (r : List (Nat × Bool)) (B : Nat) (b : World) (a : Act) (w : World) : Prop := wpOrd P l.toArray (Calm Q) r (Below B b) a w
theorem wp_region_bel {id : Nat} (B : Nat) (b : World) (hb : Below B b w) (ord : List (Nat × Bool)) (hm : P.follows .mixedOrders = true)
    (hB : (Region.noSelect l.toArray && ordB .any l.toArray ord (Array.replicate l.length false) && (ord.length == l.length)) = true)
    (h : wpBel P l Q ord B b a w.drew) : (Code.region id l.toArray true).wp P Q a w := wp_region_ord ord (Below B b) hm hB hb.drew h
theorem bel_nil (h : Q .normal a w) : wpBel P l Q [] B b a w := h
theorem bel_take (ho : nth l i = some o) (hw : Region.wanted o (yielded l.toArray a.tmps) = true) (h : ∀ w', Below B b w' → (execOp a.eval o).run P w' = .ok (.value v) w')
    (k : wpBel P l Q r B b (a.put o.dst v) w) : wpBel P l Q ((i, true) :: r) B b a w := ord_take (nth_get ho) hw h k
theorem bel_move {x : Operand} (ho : nth l i = some o) (hop : o.op = .move x) (hw : Region.wanted o (yielded l.toArray a.tmps) = true) (hv : evalL a x = some v)
    (k : wpBel P l Q r B b (a.put o.dst v) w) : wpBel P l Q ((i, true) :: r) B b a w := ord_take (nth_get ho) hw (fun w' _ => by unfold execOp; rw [hop, ← evalL_eq hv]; rfl) k
theorem bel_pass (ho : nth l i = some o) (hw : Region.wanted o (yielded l.toArray a.tmps) = false)
    (k : wpBel P l Q r B b (a.put o.dst undef) w) : wpBel P l Q ((i, true) :: r) B b a w := ord_pass (nth_get ho) hw k
theorem bel_do (ho : nth l i = some o) (hw : Region.wanted o (yielded l.toArray a.tmps) = true)
    (k : ∀ K : Act → World → Prop, (∀ a' w', Below B b w' → wpBel P l Q r B b a' w' → K a' w') → o.wp P a w K (Calm Q)) : wpBel P l Q ((i, false) :: r) B b a w :=
  ord_do (nth_get ho) hw fun K hK => k K fun a' w' h1 h => hK (Below B b) a' w' (.inl fun _ h => h) h1 h
end

/-! ### A condition of one's own, that all stores keep -/
section
variable {P : Program} {l : List Oper} {Q : Exit → Act → World → Prop} {i : Nat} {o : Oper} {r : List (Nat × Bool)} {S : World → Prop} {a : Act} {w : World} {v : Value}
def wpFix (P : Program) (l : List Oper) (Q : Exit → Act → World → Prop) (r : List (Nat × Bool)) (S : World → Prop) (a : Act) (w : World) : Prop := wpOrd P l.toArray (Calm Q) r S a w
theorem wp_region_fix {id : Nat} (S : World → Prop) (ord : List (Nat × Bool)) (hm : P.follows .mixedOrders = true)
    (hB : (Region.noSelect l.toArray && ordB .any l.toArray ord (Array.replicate l.length false) && (ord.length == l.length)) = true)
    (hS : S w.drew) (h : wpFix P l Q ord S a w.drew) : (Code.region id l.toArray true).wp P Q a w := wp_region_ord ord S hm hB hS h
theorem fix_nil (h : Q .normal a w) : wpFix P l Q [] S a w := h
theorem fix_take (ho : nth l i = some o) (hw : Region.wanted o (yielded l.toArray a.tmps) = true) (h : ∀ w', S w' → (execOp a.eval o).run P w' = .ok (.value v) w')
    (k : wpFix P l Q r S (a.put o.dst v) w) : wpFix P l Q ((i, true) :: r) S a w := ord_take (nth_get ho) hw h k
theorem fix_move {x : Operand} (ho : nth l i = some o) (hop : o.op = .move x) (hw : Region.wanted o (yielded l.toArray a.tmps) = true) (hv : evalL a x = some v)
    (k : wpFix P l Q r S (a.put o.dst v) w) : wpFix P l Q ((i, true) :: r) S a w := ord_take (nth_get ho) hw (fun w' _ => by unfold execOp; rw [hop, ← evalL_eq hv]; rfl) k
theorem fix_pass (ho : nth l i = some o) (hw : Region.wanted o (yielded l.toArray a.tmps) = false)
    (k : wpFix P l Q r S (a.put o.dst undef) w) : wpFix P l Q ((i, true) :: r) S a w := ord_pass (nth_get ho) hw k
theorem fix_do (ho : nth l i = some o) (hw : Region.wanted o (yielded l.toArray a.tmps) = true)
    (k : ∀ K : Act → World → Prop, (∀ a' w', S w' → wpFix P l Q r S a' w' → K a' w') → o.wp P a w K (Calm Q)) : wpFix P l Q ((i, false) :: r) S a w :=
  ord_do (nth_get ho) hw fun K hK => k K fun a' w' h1 h => hK S a' w' (.inl fun _ h => h) h1 h
end
end Go.Proofs.Ythjcdikpomlpmaa
